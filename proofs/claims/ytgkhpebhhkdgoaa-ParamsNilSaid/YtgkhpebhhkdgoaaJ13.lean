/-
  Texts joined: TpdChk, PrmWrd.
  Conditions: none.
-/
import Derived.Test.YtgkhpebhhkdgoaaJ10
import Derived.Test.YtgkhpebhhkdgoaaJ11
import Derived.Test.YtgkhpebhhkdgoaaJ12
/-
  Walks: Check of layer 32.
  Conditions: none.
-/
namespace Go.Proofs.Ytgkhpebhhkdgoaa
set_option linter.unusedVariables false
set_option linter.unusedSimpArgs false
open Go.RowKit
set_option maxHeartbeats 1000000 in
theorem between_any (a b c : Int) (w : World) : Calls Try.prog 79 #[.int .i64 a, .int .i64 b, .int .i64 c] w fun e w' => e = .returned (.bool (Tp.inB a b c)) ∧ w = w' := by
  by_cases h1 : b ≤ a
  · by_cases h2 : a ≤ c
    · rw [show Tp.inB a b c = true from decide_eq_true ⟨h1, h2⟩]
      go_enter Try.func79, Try.ntmps79
      go_wp2_with fail
      go_ret
      exact ⟨rfl, rfl⟩
    · rw [show Tp.inB a b c = false from decide_eq_false (fun h => h2 h.2)]
      go_enter Try.func79, Try.ntmps79
      go_wp2_with fail
      go_ret
      exact ⟨rfl, rfl⟩
  · rw [show Tp.inB a b c = false from decide_eq_false (fun h => h1 h.1)]
    go_enter Try.func79, Try.ntmps79
    go_wp2_with fail
    go_ret
    exact ⟨rfl, rfl⟩
set_option maxRecDepth 100000 in
set_option maxHeartbeats 8000000 in
theorem TCheck_any {F : Nat → Prop} {w : World} {g gv lc vc : Nat} {la : Addr} {vA : Option Addr} {xs vs : List Value} {D : Dc.Dic} {A : Option Addr} {n c B : Nat} {ws : List Nat} (v : Nat) (hv : v < 4294967296) (t inh ev : Int) (h : DRt 73 w F g gv (some la) lc vA vc xs vs D) (hd : ∀ e ∈ D.l, e.dflt.length ≤ 1000000) (hw : RW w B A n c ws) (hwl : ∀ x ∈ ws, x < 4294967296) (hB : B ≤ w.heap.size) :
    Calls Try.prog 62 #[.pointer (some ⟨g, 0, none⟩), .agg #[.int .u32 (v : Int), .int .i64 t, .int .i64 inh, .int .i64 ev, .slice A n c]] w fun e w' => e = .returned (.int .u32 (Tp.checkS D.l v t inh ev ws)) ∧ Below w.heap.size w w' := by
  have b0 := alloc_one w (.cells #[.int .u32 (v : Int), .int .i64 t, .int .i64 inh, .int .i64 ev, .slice A n c] 35)
  have K := Blk.new w 35 #[.int .u32 (v : Int), .int .i64 t, .int .i64 inh, .int .i64 ev, .slice A n c]
  have F0 := K.cell 0
  have PL := fun w => tplace_any v hv w
  have B1 := Lib.hid (fun w => between_any t 0 240 w)
  have B2 := Lib.hid (fun w => between_any t 254 255 w)
  have B3 := Lib.hid (fun w => between_any inh 0 65535 w)
  have B4 := Lib.hid (fun w => between_any ev 0 65535 w)
  have CK := fun w1 (hb : Below w.heap.size w w1) => MCheck_any false (h.below hb) hd (hw.below (hb.mono hB)) hwl (Nat.le_trans hB hb.size)
  have hcs : Tp.checkS D.l v t inh ev ws = if Cob.place v ≠ 0 then Cob.place v else if ((Tp.inB t 0 240 || Tp.inB t 254 255) && Tp.inB inh 0 65535 && Tp.inB ev 0 65535) = false then 101253168 else Mp.checkS D.l false ws := rfl
  rw [hcs]
  clear hcs h hw
  generalize Mp.checkS D.l false ws = r at *
  generalize Cob.place v = pl at *
  generalize Tp.inB t 0 240 = k1 at *
  generalize Tp.inB t 254 255 = k2 at *
  generalize Tp.inB inh 0 65535 = k3 at *
  generalize Tp.inB ev 0 65535 = k4 at *
  replace PL := Lib.hid PL; replace CK := Lib.hid CK
  by_cases hp : pl = 0
  · subst hp
    simp only [ne_eq, not_true_eq_false, if_false]
    cases k1 <;> cases k2 <;> cases k3 <;> cases k4
    · simp only [Bool.false_and, Bool.and_false, Bool.true_and, Bool.and_true, Bool.or_true, Bool.true_or, Bool.or_false, Bool.or_self, Bool.and_self, Bool.false_or, Bool.false_eq_true, Bool.true_eq_false, if_true, if_false]
      go_enter Try.func62, Try.ntmps62
      go_wp2_with fail
      refine (PL.out _).mono ?_
      rintro e w1 ⟨rfl, b1⟩
      have K1 := K.later b1
      have f1 := K1.cell 1
      have f2 := K1.cell 2
      have f3 := K1.cell 3
      have f4 := K1.cell 4
      have d1 := below_step b0 b1 (Nat.le_refl _)
      clear F0
      go_wp2_with fail
      refine (B1.out _).mono ?_
      rintro e _ ⟨rfl, rfl⟩
      go_wp2_with fail
      refine (B2.out _).mono ?_
      rintro e _ ⟨rfl, rfl⟩
      go_wp2_with fail
      go_ret
      exact ⟨rfl, d1⟩
    · simp only [Bool.false_and, Bool.and_false, Bool.true_and, Bool.and_true, Bool.or_true, Bool.true_or, Bool.or_false, Bool.or_self, Bool.and_self, Bool.false_or, Bool.false_eq_true, Bool.true_eq_false, if_true, if_false]
      go_enter Try.func62, Try.ntmps62
      go_wp2_with fail
      refine (PL.out _).mono ?_
      rintro e w1 ⟨rfl, b1⟩
      have K1 := K.later b1
      have f1 := K1.cell 1
      have f2 := K1.cell 2
      have f3 := K1.cell 3
      have f4 := K1.cell 4
      have d1 := below_step b0 b1 (Nat.le_refl _)
      clear F0
      go_wp2_with fail
      refine (B1.out _).mono ?_
      rintro e _ ⟨rfl, rfl⟩
      go_wp2_with fail
      refine (B2.out _).mono ?_
      rintro e _ ⟨rfl, rfl⟩
      go_wp2_with fail
      go_ret
      exact ⟨rfl, d1⟩
    · simp only [Bool.false_and, Bool.and_false, Bool.true_and, Bool.and_true, Bool.or_true, Bool.true_or, Bool.or_false, Bool.or_self, Bool.and_self, Bool.false_or, Bool.false_eq_true, Bool.true_eq_false, if_true, if_false]
      go_enter Try.func62, Try.ntmps62
      go_wp2_with fail
      refine (PL.out _).mono ?_
      rintro e w1 ⟨rfl, b1⟩
      have K1 := K.later b1
      have f1 := K1.cell 1
      have f2 := K1.cell 2
      have f3 := K1.cell 3
      have f4 := K1.cell 4
      have d1 := below_step b0 b1 (Nat.le_refl _)
      clear F0
      go_wp2_with fail
      refine (B1.out _).mono ?_
      rintro e _ ⟨rfl, rfl⟩
      go_wp2_with fail
      refine (B2.out _).mono ?_
      rintro e _ ⟨rfl, rfl⟩
      go_wp2_with fail
      go_ret
      exact ⟨rfl, d1⟩
    · simp only [Bool.false_and, Bool.and_false, Bool.true_and, Bool.and_true, Bool.or_true, Bool.true_or, Bool.or_false, Bool.or_self, Bool.and_self, Bool.false_or, Bool.false_eq_true, Bool.true_eq_false, if_true, if_false]
      go_enter Try.func62, Try.ntmps62
      go_wp2_with fail
      refine (PL.out _).mono ?_
      rintro e w1 ⟨rfl, b1⟩
      have K1 := K.later b1
      have f1 := K1.cell 1
      have f2 := K1.cell 2
      have f3 := K1.cell 3
      have f4 := K1.cell 4
      have d1 := below_step b0 b1 (Nat.le_refl _)
      clear F0
      go_wp2_with fail
      refine (B1.out _).mono ?_
      rintro e _ ⟨rfl, rfl⟩
      go_wp2_with fail
      refine (B2.out _).mono ?_
      rintro e _ ⟨rfl, rfl⟩
      go_wp2_with fail
      go_ret
      exact ⟨rfl, d1⟩
    · simp only [Bool.false_and, Bool.and_false, Bool.true_and, Bool.and_true, Bool.or_true, Bool.true_or, Bool.or_false, Bool.or_self, Bool.and_self, Bool.false_or, Bool.false_eq_true, Bool.true_eq_false, if_true, if_false]
      go_enter Try.func62, Try.ntmps62
      go_wp2_with fail
      refine (PL.out _).mono ?_
      rintro e w1 ⟨rfl, b1⟩
      have K1 := K.later b1
      have f1 := K1.cell 1
      have f2 := K1.cell 2
      have f3 := K1.cell 3
      have f4 := K1.cell 4
      have d1 := below_step b0 b1 (Nat.le_refl _)
      clear F0
      go_wp2_with fail
      refine (B1.out _).mono ?_
      rintro e _ ⟨rfl, rfl⟩
      go_wp2_with fail
      refine (B2.out _).mono ?_
      rintro e _ ⟨rfl, rfl⟩
      go_wp2_with fail
      refine (B3.out _).mono ?_
      rintro e _ ⟨rfl, rfl⟩
      go_wp2_with fail
      go_ret
      exact ⟨rfl, d1⟩
    · simp only [Bool.false_and, Bool.and_false, Bool.true_and, Bool.and_true, Bool.or_true, Bool.true_or, Bool.or_false, Bool.or_self, Bool.and_self, Bool.false_or, Bool.false_eq_true, Bool.true_eq_false, if_true, if_false]
      go_enter Try.func62, Try.ntmps62
      go_wp2_with fail
      refine (PL.out _).mono ?_
      rintro e w1 ⟨rfl, b1⟩
      have K1 := K.later b1
      have f1 := K1.cell 1
      have f2 := K1.cell 2
      have f3 := K1.cell 3
      have f4 := K1.cell 4
      have d1 := below_step b0 b1 (Nat.le_refl _)
      clear F0
      go_wp2_with fail
      refine (B1.out _).mono ?_
      rintro e _ ⟨rfl, rfl⟩
      go_wp2_with fail
      refine (B2.out _).mono ?_
      rintro e _ ⟨rfl, rfl⟩
      go_wp2_with fail
      refine (B3.out _).mono ?_
      rintro e _ ⟨rfl, rfl⟩
      go_wp2_with fail
      go_ret
      exact ⟨rfl, d1⟩
    · simp only [Bool.false_and, Bool.and_false, Bool.true_and, Bool.and_true, Bool.or_true, Bool.true_or, Bool.or_false, Bool.or_self, Bool.and_self, Bool.false_or, Bool.false_eq_true, Bool.true_eq_false, if_true, if_false]
      go_enter Try.func62, Try.ntmps62
      go_wp2_with fail
      refine (PL.out _).mono ?_
      rintro e w1 ⟨rfl, b1⟩
      have K1 := K.later b1
      have f1 := K1.cell 1
      have f2 := K1.cell 2
      have f3 := K1.cell 3
      have f4 := K1.cell 4
      have d1 := below_step b0 b1 (Nat.le_refl _)
      clear F0
      go_wp2_with fail
      refine (B1.out _).mono ?_
      rintro e _ ⟨rfl, rfl⟩
      go_wp2_with fail
      refine (B2.out _).mono ?_
      rintro e _ ⟨rfl, rfl⟩
      go_wp2_with fail
      refine (B3.out _).mono ?_
      rintro e _ ⟨rfl, rfl⟩
      go_wp2_with fail
      refine (B4.out _).mono ?_
      rintro e _ ⟨rfl, rfl⟩
      go_wp2_with fail
      go_ret
      exact ⟨rfl, d1⟩
    · simp only [Bool.false_and, Bool.and_false, Bool.true_and, Bool.and_true, Bool.or_true, Bool.true_or, Bool.or_false, Bool.or_self, Bool.and_self, Bool.false_or, Bool.false_eq_true, Bool.true_eq_false, if_true, if_false]
      go_enter Try.func62, Try.ntmps62
      go_wp2_with fail
      refine (PL.out _).mono ?_
      rintro e w1 ⟨rfl, b1⟩
      have K1 := K.later b1
      have f1 := K1.cell 1
      have f2 := K1.cell 2
      have f3 := K1.cell 3
      have f4 := K1.cell 4
      have d1 := below_step b0 b1 (Nat.le_refl _)
      clear F0
      go_wp2_with fail
      refine (B1.out _).mono ?_
      rintro e _ ⟨rfl, rfl⟩
      go_wp2_with fail
      refine (B2.out _).mono ?_
      rintro e _ ⟨rfl, rfl⟩
      go_wp2_with fail
      refine (B3.out _).mono ?_
      rintro e _ ⟨rfl, rfl⟩
      go_wp2_with fail
      refine (B4.out _).mono ?_
      rintro e _ ⟨rfl, rfl⟩
      go_wp2_with fail
      refine (CK.out _ d1).mono ?_
      rintro e w2 ⟨rfl, b2⟩
      go_wp2_with fail
      go_ret
      exact ⟨rfl, below_step d1 b2 (Nat.le_refl _)⟩
    · simp only [Bool.false_and, Bool.and_false, Bool.true_and, Bool.and_true, Bool.or_true, Bool.true_or, Bool.or_false, Bool.or_self, Bool.and_self, Bool.false_or, Bool.false_eq_true, Bool.true_eq_false, if_true, if_false]
      go_enter Try.func62, Try.ntmps62
      go_wp2_with fail
      refine (PL.out _).mono ?_
      rintro e w1 ⟨rfl, b1⟩
      have K1 := K.later b1
      have f1 := K1.cell 1
      have f2 := K1.cell 2
      have f3 := K1.cell 3
      have f4 := K1.cell 4
      have d1 := below_step b0 b1 (Nat.le_refl _)
      clear F0
      go_wp2_with fail
      refine (B1.out _).mono ?_
      rintro e _ ⟨rfl, rfl⟩
      go_wp2_with fail
      refine (B3.out _).mono ?_
      rintro e _ ⟨rfl, rfl⟩
      go_wp2_with fail
      go_ret
      exact ⟨rfl, d1⟩
    · simp only [Bool.false_and, Bool.and_false, Bool.true_and, Bool.and_true, Bool.or_true, Bool.true_or, Bool.or_false, Bool.or_self, Bool.and_self, Bool.false_or, Bool.false_eq_true, Bool.true_eq_false, if_true, if_false]
      go_enter Try.func62, Try.ntmps62
      go_wp2_with fail
      refine (PL.out _).mono ?_
      rintro e w1 ⟨rfl, b1⟩
      have K1 := K.later b1
      have f1 := K1.cell 1
      have f2 := K1.cell 2
      have f3 := K1.cell 3
      have f4 := K1.cell 4
      have d1 := below_step b0 b1 (Nat.le_refl _)
      clear F0
      go_wp2_with fail
      refine (B1.out _).mono ?_
      rintro e _ ⟨rfl, rfl⟩
      go_wp2_with fail
      refine (B3.out _).mono ?_
      rintro e _ ⟨rfl, rfl⟩
      go_wp2_with fail
      go_ret
      exact ⟨rfl, d1⟩
    · simp only [Bool.false_and, Bool.and_false, Bool.true_and, Bool.and_true, Bool.or_true, Bool.true_or, Bool.or_false, Bool.or_self, Bool.and_self, Bool.false_or, Bool.false_eq_true, Bool.true_eq_false, if_true, if_false]
      go_enter Try.func62, Try.ntmps62
      go_wp2_with fail
      refine (PL.out _).mono ?_
      rintro e w1 ⟨rfl, b1⟩
      have K1 := K.later b1
      have f1 := K1.cell 1
      have f2 := K1.cell 2
      have f3 := K1.cell 3
      have f4 := K1.cell 4
      have d1 := below_step b0 b1 (Nat.le_refl _)
      clear F0
      go_wp2_with fail
      refine (B1.out _).mono ?_
      rintro e _ ⟨rfl, rfl⟩
      go_wp2_with fail
      refine (B3.out _).mono ?_
      rintro e _ ⟨rfl, rfl⟩
      go_wp2_with fail
      refine (B4.out _).mono ?_
      rintro e _ ⟨rfl, rfl⟩
      go_wp2_with fail
      go_ret
      exact ⟨rfl, d1⟩
    · simp only [Bool.false_and, Bool.and_false, Bool.true_and, Bool.and_true, Bool.or_true, Bool.true_or, Bool.or_false, Bool.or_self, Bool.and_self, Bool.false_or, Bool.false_eq_true, Bool.true_eq_false, if_true, if_false]
      go_enter Try.func62, Try.ntmps62
      go_wp2_with fail
      refine (PL.out _).mono ?_
      rintro e w1 ⟨rfl, b1⟩
      have K1 := K.later b1
      have f1 := K1.cell 1
      have f2 := K1.cell 2
      have f3 := K1.cell 3
      have f4 := K1.cell 4
      have d1 := below_step b0 b1 (Nat.le_refl _)
      clear F0
      go_wp2_with fail
      refine (B1.out _).mono ?_
      rintro e _ ⟨rfl, rfl⟩
      go_wp2_with fail
      refine (B3.out _).mono ?_
      rintro e _ ⟨rfl, rfl⟩
      go_wp2_with fail
      refine (B4.out _).mono ?_
      rintro e _ ⟨rfl, rfl⟩
      go_wp2_with fail
      refine (CK.out _ d1).mono ?_
      rintro e w2 ⟨rfl, b2⟩
      go_wp2_with fail
      go_ret
      exact ⟨rfl, below_step d1 b2 (Nat.le_refl _)⟩
    · simp only [Bool.false_and, Bool.and_false, Bool.true_and, Bool.and_true, Bool.or_true, Bool.true_or, Bool.or_false, Bool.or_self, Bool.and_self, Bool.false_or, Bool.false_eq_true, Bool.true_eq_false, if_true, if_false]
      go_enter Try.func62, Try.ntmps62
      go_wp2_with fail
      refine (PL.out _).mono ?_
      rintro e w1 ⟨rfl, b1⟩
      have K1 := K.later b1
      have f1 := K1.cell 1
      have f2 := K1.cell 2
      have f3 := K1.cell 3
      have f4 := K1.cell 4
      have d1 := below_step b0 b1 (Nat.le_refl _)
      clear F0
      go_wp2_with fail
      refine (B1.out _).mono ?_
      rintro e _ ⟨rfl, rfl⟩
      go_wp2_with fail
      refine (B3.out _).mono ?_
      rintro e _ ⟨rfl, rfl⟩
      go_wp2_with fail
      go_ret
      exact ⟨rfl, d1⟩
    · simp only [Bool.false_and, Bool.and_false, Bool.true_and, Bool.and_true, Bool.or_true, Bool.true_or, Bool.or_false, Bool.or_self, Bool.and_self, Bool.false_or, Bool.false_eq_true, Bool.true_eq_false, if_true, if_false]
      go_enter Try.func62, Try.ntmps62
      go_wp2_with fail
      refine (PL.out _).mono ?_
      rintro e w1 ⟨rfl, b1⟩
      have K1 := K.later b1
      have f1 := K1.cell 1
      have f2 := K1.cell 2
      have f3 := K1.cell 3
      have f4 := K1.cell 4
      have d1 := below_step b0 b1 (Nat.le_refl _)
      clear F0
      go_wp2_with fail
      refine (B1.out _).mono ?_
      rintro e _ ⟨rfl, rfl⟩
      go_wp2_with fail
      refine (B3.out _).mono ?_
      rintro e _ ⟨rfl, rfl⟩
      go_wp2_with fail
      go_ret
      exact ⟨rfl, d1⟩
    · simp only [Bool.false_and, Bool.and_false, Bool.true_and, Bool.and_true, Bool.or_true, Bool.true_or, Bool.or_false, Bool.or_self, Bool.and_self, Bool.false_or, Bool.false_eq_true, Bool.true_eq_false, if_true, if_false]
      go_enter Try.func62, Try.ntmps62
      go_wp2_with fail
      refine (PL.out _).mono ?_
      rintro e w1 ⟨rfl, b1⟩
      have K1 := K.later b1
      have f1 := K1.cell 1
      have f2 := K1.cell 2
      have f3 := K1.cell 3
      have f4 := K1.cell 4
      have d1 := below_step b0 b1 (Nat.le_refl _)
      clear F0
      go_wp2_with fail
      refine (B1.out _).mono ?_
      rintro e _ ⟨rfl, rfl⟩
      go_wp2_with fail
      refine (B3.out _).mono ?_
      rintro e _ ⟨rfl, rfl⟩
      go_wp2_with fail
      refine (B4.out _).mono ?_
      rintro e _ ⟨rfl, rfl⟩
      go_wp2_with fail
      go_ret
      exact ⟨rfl, d1⟩
    · simp only [Bool.false_and, Bool.and_false, Bool.true_and, Bool.and_true, Bool.or_true, Bool.true_or, Bool.or_false, Bool.or_self, Bool.and_self, Bool.false_or, Bool.false_eq_true, Bool.true_eq_false, if_true, if_false]
      go_enter Try.func62, Try.ntmps62
      go_wp2_with fail
      refine (PL.out _).mono ?_
      rintro e w1 ⟨rfl, b1⟩
      have K1 := K.later b1
      have f1 := K1.cell 1
      have f2 := K1.cell 2
      have f3 := K1.cell 3
      have f4 := K1.cell 4
      have d1 := below_step b0 b1 (Nat.le_refl _)
      clear F0
      go_wp2_with fail
      refine (B1.out _).mono ?_
      rintro e _ ⟨rfl, rfl⟩
      go_wp2_with fail
      refine (B3.out _).mono ?_
      rintro e _ ⟨rfl, rfl⟩
      go_wp2_with fail
      refine (B4.out _).mono ?_
      rintro e _ ⟨rfl, rfl⟩
      go_wp2_with fail
      refine (CK.out _ d1).mono ?_
      rintro e w2 ⟨rfl, b2⟩
      go_wp2_with fail
      go_ret
      exact ⟨rfl, below_step d1 b2 (Nat.le_refl _)⟩
  · simp only [ne_eq, hp, not_false_eq_true, if_true]
    have hp2 : (pl == 0) = false := by simpa using hp
    have hp3 : (pl != 0) = true := by simpa using hp
    replace hp := Lib.hid hp
    go_enter Try.func62, Try.ntmps62
    go_wp2_with fail
    refine (PL.out _).mono ?_
    rintro e w1 ⟨rfl, b1⟩
    go_wp2_with fail
    go_ret
    exact ⟨rfl, below_step b0 b1 (Nat.le_refl _)⟩
set_option maxHeartbeats 1000000 in
theorem TCheck_nil (x y z u q : Value) (w : World) : Calls Try.prog 62 #[.pointer none, .agg #[x, y, z, u, q]] w fun e w' => e = .returned (.int .u32 100925511) ∧ Below w.heap.size w w' := by
  go_enter Try.func62, Try.ntmps62
  go_wp2_with fail
  go_ret
  exact ⟨rfl, alloc_one _ _⟩
end Go.Proofs.Ytgkhpebhhkdgoaa
/-
  Walks: Words, Rpdo, Tpdo, Peers, Period, Sync of layer 33.
  Conditions: none.
-/
namespace Go.Proofs.Ytgkhpebhhkdgoaa
set_option linter.unusedVariables false
set_option linter.unusedSimpArgs false
open Go.RowKit
theorem etp : ET Try.prog 29 28 1 4 (.int .u32 0) := ⟨Try.underlying29, info_parts (by kernel_rfl), rfl, by decide⟩
/-- Words of the call's own. -/
def WdC (x : Nat) (cs : List Value) : Prop := cs = [Value.int .u32 (x : Int)]
def OWp (w : World) (base : Nat) (A : Option Addr) (n c : Nat) (ws : List Nat) : Prop := OS WdC w base 28 1 A n c ws
theorem rows_words : ∀ {ws : List Nat} {xs : List Value}, Rows WdC 1 ws xs → xs = ws.map fun (x : Nat) => Value.int .u32 (x : Int) := by
  intro ws xs h
  have hl := h.len
  apply List.ext_getElem?
  intro i
  rw [List.getElem?_map]
  by_cases hi : i < ws.length
  · have h1 : ws[i]? = some ws[i] := List.getElem?_eq_getElem hi
    have h2 : (xs.drop (i * 1)).take 1 = [Value.int .u32 ((ws[i] : Nat) : Int)] := h.2 i _ h1
    have h3 : ((xs.drop (i * 1)).take 1)[0]? = some (Value.int .u32 ((ws[i] : Nat) : Int)) := by rw [h2]; rfl
    rw [List.getElem?_take, if_pos (by decide), List.getElem?_drop] at h3
    rw [h1, Option.map_some]
    simpa using h3
  · rw [List.getElem?_eq_none (by omega), List.getElem?_eq_none (by omega)]
    rfl
theorem OWp.rw {w : World} {base n c : Nat} {A : Option Addr} {ws : List Nat} (h : OWp w base A n c ws) : RW w w.heap.size A n c ws := by
  obtain ⟨xs, h1, h2⟩ := h
  have := rows_words h2
  subst this
  exact h1.rv
theorem OWp.below {w w' : World} {base n c : Nat} {A : Option Addr} {ws : List Nat} (h : OWp w base A n c ws) (hb : Below w.heap.size w w') : OWp w' base A n c ws := OS.below h hb fun _ _ h => h
theorem OWp.more {w : World} {base base' n c : Nat} {A : Option Addr} {ws : List Nat} (h : OWp w base A n c ws) (hb : base' ≤ base) : OWp w base' A n c ws := OS.more h hb fun _ _ h => h
theorem OWp.far {w : World} {base n c g : Nat} {A : Option Addr} {ws : List Nat} (h : OWp w base A n c ws) (hg : g < base) (i : Nat) (u : Value) : OWp (w.setCell ⟨g, i, none⟩ u) base A n c ws := by
  obtain ⟨xs, h1, h2⟩ := h
  exact ⟨xs, h1.far hg i u, h2⟩
theorem OWp.none_ (w : World) (base : Nat) : OWp w base none 0 0 [] := OS.none_ _ _ _ _
/-- A list of words, in new memory. -/
def WordsP (ws : List Nat) (w : World) (e : Ending) (w' : World) : Prop := ∃ A c, e = .returned (.slice A ws.length c) ∧ OWp w' w.heap.size A ws.length c ws ∧ Below w.heap.size w w'
theorem word_wrap {z : Int} (h : 0 ≤ z ∧ z < 4294967296) : IntKind.u32.wrap z = ((z.toNat : Nat) : Int) := by
  simp [IntKind.wrap, IntKind.bits, IntKind.signed]
  omega
section
variable {F : Nat → Prop} {w : World} {g gv lc vc : Nat} {la : Addr} {vA : Option Addr} {xs vs : List Value} {D : Dc.Dic}
set_option maxRecDepth 100000 in
set_option maxHeartbeats 4000000 in
theorem Words_any (x : Int) (h : DRt 73 w F g gv (some la) lc vA vc xs vs D) (hd : ∀ e ∈ D.l, e.dflt.length ≤ 1000000) (hv : ∀ v ∈ D.v, v.length ≤ 1000000) :
    Calls Try.prog 9 #[.pointer (some ⟨g, 0, none⟩), .int .i64 x] w (WordsP (Pm.wordsS D x) w) := by
  have NU0 := number_any x 0 0 h hd hv
  have NUk := fun (w1 : World) (hb : Below w.heap.size w w1) (y : Int) => number_any x y 0 (h.below hb) hd hv
  obtain ⟨hc8, hce⟩ := Pm.cnt_le D x
  have hn0 := (Pm.numD_range D x 0 (o := 0) (by omega)).1
  have hst := Pm.wordsK_step D x
  have hrg := fun y => Pm.numD_range D x y (o := 0) (by omega)
  have hws : Pm.wordsS D x = Pm.wordsK D x (Pm.cntS D x) := rfl
  have hK0 : Pm.wordsK D x 0 = [] := rfl
  have hln := Pm.wordsK_len D x
  rw [hws]
  generalize Pm.numD D x = nd at *
  generalize Pm.wordsK D x = wk at *
  generalize Pm.cntS D x = cn at *
  have HST := Lib.hid hst; have HRG := Lib.hid hrg; have HK0 := Lib.hid hK0; have HLN := Lib.hid hln
  replace NU0 := Lib.hid NU0; replace NUk := Lib.hid NUk
  clear h hws hst hrg hK0 hln
  generalize hz0 : nd 0 0 = z0 at *
  clear hz0
  rcases (show (8 < z0 ∧ cn = 8) ∨ (z0 = (cn : Int)) by omega) with ⟨h8, rfl⟩ | rfl
  · clear hce hn0
    go_enter Try.func9, Try.ntmps9
    go_wp2_with fail
    refine (NU0.out).mono ?_
    rintro e w1 ⟨rfl, b1⟩
    go_wp2_with fail
    go_loopw [5, 11] (fun v i wr => ∃ (k : Nat) (A1 : Option Addr) (c1 : Nat), k ≤ 8 ∧ i = .int .i64 k ∧ v = .slice A1 k c1 ∧ OS WdC wr w.heap.size 28 1 A1 k c1 (wk k) ∧ Below w.heap.size w wr) (fun _ i _ => 8 - (intOf i).toNat)
    case atStart => exact ⟨0, _, _, by omega, rfl, rfl, by rw [HK0.out]; exact OS.none_ _ _ _ _, b1⟩
    case round =>
      obtain ⟨k, A1, c1, hk, rfl, rfl, os, bb⟩ := hrel
      clear h8 hc8
      by_cases hlt : k < 8
      · have NK := Lib.hid (NUk.out wr bb ((k : Int) + 1))
        obtain ⟨hz1, hz2⟩ := HRG.out ((k : Int) + 1)
        have HS := Lib.hid (HST.out k)
        generalize nd ((k : Int) + 1) 0 = z at *
        obtain ⟨z, rfl⟩ := Int.eq_ofNat_of_zero_le hz1
        have hzw : (z : Int) % 4294967296 = (z : Int) := Int.emod_eq_of_lt hz1 hz2
        clear hz1 hz2
        have HOS := Lib.hid os
        clear os HST HRG HK0 HLN NUk NU0 hd hv
        go_wp2_with fail
        refine (NK.out).mono ?_
        rintro e w2 ⟨rfl, b2⟩
        have d2 := below_step bb b2 (Nat.le_refl _)
        have os2 := (HOS.out).below b2 (R' := WdC) fun _ _ h => h
        clear HOS NK
        go_wp2_with (at_builtin; refine wpList_apps etp (fun _ => WdC) rfl (.tmp 14) (.tmp 21) rfl rfl rfl rfl w.heap.size os2 z rfl rfl (fun u hu => by simp only [List.mem_cons, List.not_mem_nil, or_false] at hu; rw [hu]; rfl) (by omega) (by omega) d2.size (fun w1 A1 n1 c1 xs h g f cs hf => hf) ?_; intro A3 c3 w3 os3 b3 g3 _)
        have d3 := d2.trans b3
        go_wp2_with fail
        go_roundw
        case rel => exact ⟨k + 1, A3, c3, by omega, by go_num, rfl, by rw [HS.out]; exact os3, d3⟩
        case measure => simp [intOf] <;> omega
      · obtain rfl : k = 8 := by omega
        go_wp2_with fail
        go_ret
        exact ⟨A1, c1, by rw [HLN.out]; rfl, by rw [HLN.out]; exact os, bb⟩
  · clear hce
    go_enter Try.func9, Try.ntmps9
    go_wp2_with fail
    refine (NU0.out).mono ?_
    rintro e w1 ⟨rfl, b1⟩
    go_wp2_with fail
    go_loopw [5, 11] (fun v i wr => ∃ (k : Nat) (A1 : Option Addr) (c1 : Nat), k ≤ cn ∧ i = .int .i64 k ∧ v = .slice A1 k c1 ∧ OS WdC wr w.heap.size 28 1 A1 k c1 (wk k) ∧ Below w.heap.size w wr) (fun _ i _ => cn - (intOf i).toNat)
    case atStart => exact ⟨0, _, _, by omega, rfl, rfl, by rw [HK0.out]; exact OS.none_ _ _ _ _, b1⟩
    case round =>
      obtain ⟨k, A1, c1, hk, rfl, rfl, os, bb⟩ := hrel
      by_cases hlt : k < cn
      · have NK := Lib.hid (NUk.out wr bb ((k : Int) + 1))
        obtain ⟨hz1, hz2⟩ := HRG.out ((k : Int) + 1)
        have HS := Lib.hid (HST.out k)
        generalize nd ((k : Int) + 1) 0 = z at *
        obtain ⟨z, rfl⟩ := Int.eq_ofNat_of_zero_le hz1
        have hzw : (z : Int) % 4294967296 = (z : Int) := Int.emod_eq_of_lt hz1 hz2
        clear hz1 hz2
        have HOS := Lib.hid os
        clear os HST HRG HK0 HLN NUk NU0 hd hv
        go_wp2_with fail
        refine (NK.out).mono ?_
        rintro e w2 ⟨rfl, b2⟩
        have d2 := below_step bb b2 (Nat.le_refl _)
        have os2 := (HOS.out).below b2 (R' := WdC) fun _ _ h => h
        clear HOS NK
        go_wp2_with (at_builtin; refine wpList_apps etp (fun _ => WdC) rfl (.tmp 14) (.tmp 21) rfl rfl rfl rfl w.heap.size os2 z rfl rfl (fun u hu => by simp only [List.mem_cons, List.not_mem_nil, or_false] at hu; rw [hu]; rfl) (by omega) (by omega) d2.size (fun w1 A1 n1 c1 xs h g f cs hf => hf) ?_; intro A3 c3 w3 os3 b3 g3 _)
        have d3 := d2.trans b3
        go_wp2_with fail
        go_roundw
        case rel => exact ⟨k + 1, A3, c3, by omega, by go_num, rfl, by rw [HS.out]; exact os3, d3⟩
        case measure => simp [intOf] <;> omega
      · obtain rfl : k = cn := by omega
        go_wp2_with fail
        go_ret
        exact ⟨A1, c1, by rw [HLN.out]; rfl, by rw [HLN.out]; exact os, bb⟩
end
end Go.Proofs.Ytgkhpebhhkdgoaa
