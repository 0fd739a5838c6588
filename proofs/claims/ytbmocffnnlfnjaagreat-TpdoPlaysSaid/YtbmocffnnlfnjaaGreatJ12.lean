/-
  Texts joined: TpdChk, DicNwM, ValMem, TpdMem.
  Conditions: none.
-/
import Derived.Test.YtbmocffnnlfnjaaGreatJ03
import Derived.Test.YtbmocffnnlfnjaaGreatJ04
import Derived.Test.YtbmocffnnlfnjaaGreatJ05
import Derived.Test.YtbmocffnnlfnjaaGreatJ06
import Derived.Test.YtbmocffnnlfnjaaGreatJ11
/-
  Walks: Check of layer 32.
  Conditions: none.
-/
namespace Go.Proofs.YtbmocffnnlfnjaaGreat
set_option linter.unusedVariables false
set_option linter.unusedSimpArgs false
open Go.RowKit
set_option maxHeartbeats 1000000 in
theorem between_any (a b c : Int) (w : World) : Calls Tryz.prog 40 #[.int .i64 a, .int .i64 b, .int .i64 c] w fun e w' => e = .returned (.bool (Tp.inB a b c)) ∧ w = w' := by
  by_cases h1 : b ≤ a
  · by_cases h2 : a ≤ c
    · rw [show Tp.inB a b c = true from decide_eq_true ⟨h1, h2⟩]
      go_enter Tryz.func40, Tryz.ntmps40
      go_wp2_with fail
      go_ret
      exact ⟨rfl, rfl⟩
    · rw [show Tp.inB a b c = false from decide_eq_false (fun h => h2 h.2)]
      go_enter Tryz.func40, Tryz.ntmps40
      go_wp2_with fail
      go_ret
      exact ⟨rfl, rfl⟩
  · rw [show Tp.inB a b c = false from decide_eq_false (fun h => h1 h.1)]
    go_enter Tryz.func40, Tryz.ntmps40
    go_wp2_with fail
    go_ret
    exact ⟨rfl, rfl⟩
set_option maxRecDepth 100000 in
set_option maxHeartbeats 8000000 in
theorem TCheck_any {F : Nat → Prop} {w : World} {g gv lc vc : Nat} {la : Addr} {vA : Option Addr} {xs vs : List Value} {D : Dc.Dic} {A : Option Addr} {n c B : Nat} {ws : List Nat} (v : Nat) (hv : v < 4294967296) (t inh ev : Int) (h : DRt 66 w F g gv (some la) lc vA vc xs vs D) (hd : ∀ e ∈ D.l, e.dflt.length ≤ 1000000) (hw : RW w B A n c ws) (hwl : ∀ x ∈ ws, x < 4294967296) (hB : B ≤ w.heap.size) :
    Calls Tryz.prog 11 #[.pointer (some ⟨g, 0, none⟩), .agg #[.int .u32 (v : Int), .int .i64 t, .int .i64 inh, .int .i64 ev, .slice A n c]] w fun e w' => e = .returned (.int .u32 (Tp.checkS D.l v t inh ev ws)) ∧ Below w.heap.size w w' := by
  have b0 := alloc_one w (.cells #[.int .u32 (v : Int), .int .i64 t, .int .i64 inh, .int .i64 ev, .slice A n c] 39)
  have K := Blk.new w 39 #[.int .u32 (v : Int), .int .i64 t, .int .i64 inh, .int .i64 ev, .slice A n c]
  have F0 := K.cell 0
  have PL := fun w => tplace_any v hv w
  have B1 := Lib.hid (fun w => between_any t 0 240 w)
  have B2 := Lib.hid (fun w => between_any t 254 255 w)
  have B3 := Lib.hid (fun w => between_any inh 0 65535 w)
  have B4 := Lib.hid (fun w => between_any ev 0 65535 w)
  have CK := fun w1 (hb : Below w.heap.size w w1) => MCheck_any false (h.below hb) hd (hw.below (hb.mono hB)) hwl (Nat.le_trans hB hb.size)
  have hcs : Tp.checkS D.l v t inh ev ws = if Cob.place v ≠ 0 then Cob.place v else if ((Tp.inB t 0 240 || Tp.inB t 254 255) && Tp.inB inh 0 65535 && Tp.inB ev 0 65535) = false then 101253168 else Mp.checkS D.l false ws := rfl
  rw [hcs]
  clear hcs h hw
  generalize Mp.checkS D.l false ws = r at *
  generalize Cob.place v = pl at *
  generalize Tp.inB t 0 240 = k1 at *
  generalize Tp.inB t 254 255 = k2 at *
  generalize Tp.inB inh 0 65535 = k3 at *
  generalize Tp.inB ev 0 65535 = k4 at *
  replace PL := Lib.hid PL; replace CK := Lib.hid CK
  by_cases hp : pl = 0
  · subst hp
    simp only [ne_eq, not_true_eq_false, if_false]
    cases k1 <;> cases k2 <;> cases k3 <;> cases k4
    · simp only [Bool.false_and, Bool.and_false, Bool.true_and, Bool.and_true, Bool.or_true, Bool.true_or, Bool.or_false, Bool.or_self, Bool.and_self, Bool.false_or, Bool.false_eq_true, Bool.true_eq_false, if_true, if_false]
      go_enter Tryz.func11, Tryz.ntmps11
      go_wp2_with fail
      refine (PL.out _).mono ?_
      rintro e w1 ⟨rfl, b1⟩
      have K1 := K.later b1
      have f1 := K1.cell 1
      have f2 := K1.cell 2
      have f3 := K1.cell 3
      have f4 := K1.cell 4
      have d1 := below_step b0 b1 (Nat.le_refl _)
      clear F0
      go_wp2_with fail
      refine (B1.out _).mono ?_
      rintro e _ ⟨rfl, rfl⟩
      go_wp2_with fail
      refine (B2.out _).mono ?_
      rintro e _ ⟨rfl, rfl⟩
      go_wp2_with fail
      go_ret
      exact ⟨rfl, d1⟩
    · simp only [Bool.false_and, Bool.and_false, Bool.true_and, Bool.and_true, Bool.or_true, Bool.true_or, Bool.or_false, Bool.or_self, Bool.and_self, Bool.false_or, Bool.false_eq_true, Bool.true_eq_false, if_true, if_false]
      go_enter Tryz.func11, Tryz.ntmps11
      go_wp2_with fail
      refine (PL.out _).mono ?_
      rintro e w1 ⟨rfl, b1⟩
      have K1 := K.later b1
      have f1 := K1.cell 1
      have f2 := K1.cell 2
      have f3 := K1.cell 3
      have f4 := K1.cell 4
      have d1 := below_step b0 b1 (Nat.le_refl _)
      clear F0
      go_wp2_with fail
      refine (B1.out _).mono ?_
      rintro e _ ⟨rfl, rfl⟩
      go_wp2_with fail
      refine (B2.out _).mono ?_
      rintro e _ ⟨rfl, rfl⟩
      go_wp2_with fail
      go_ret
      exact ⟨rfl, d1⟩
    · simp only [Bool.false_and, Bool.and_false, Bool.true_and, Bool.and_true, Bool.or_true, Bool.true_or, Bool.or_false, Bool.or_self, Bool.and_self, Bool.false_or, Bool.false_eq_true, Bool.true_eq_false, if_true, if_false]
      go_enter Tryz.func11, Tryz.ntmps11
      go_wp2_with fail
      refine (PL.out _).mono ?_
      rintro e w1 ⟨rfl, b1⟩
      have K1 := K.later b1
      have f1 := K1.cell 1
      have f2 := K1.cell 2
      have f3 := K1.cell 3
      have f4 := K1.cell 4
      have d1 := below_step b0 b1 (Nat.le_refl _)
      clear F0
      go_wp2_with fail
      refine (B1.out _).mono ?_
      rintro e _ ⟨rfl, rfl⟩
      go_wp2_with fail
      refine (B2.out _).mono ?_
      rintro e _ ⟨rfl, rfl⟩
      go_wp2_with fail
      go_ret
      exact ⟨rfl, d1⟩
    · simp only [Bool.false_and, Bool.and_false, Bool.true_and, Bool.and_true, Bool.or_true, Bool.true_or, Bool.or_false, Bool.or_self, Bool.and_self, Bool.false_or, Bool.false_eq_true, Bool.true_eq_false, if_true, if_false]
      go_enter Tryz.func11, Tryz.ntmps11
      go_wp2_with fail
      refine (PL.out _).mono ?_
      rintro e w1 ⟨rfl, b1⟩
      have K1 := K.later b1
      have f1 := K1.cell 1
      have f2 := K1.cell 2
      have f3 := K1.cell 3
      have f4 := K1.cell 4
      have d1 := below_step b0 b1 (Nat.le_refl _)
      clear F0
      go_wp2_with fail
      refine (B1.out _).mono ?_
      rintro e _ ⟨rfl, rfl⟩
      go_wp2_with fail
      refine (B2.out _).mono ?_
      rintro e _ ⟨rfl, rfl⟩
      go_wp2_with fail
      go_ret
      exact ⟨rfl, d1⟩
    · simp only [Bool.false_and, Bool.and_false, Bool.true_and, Bool.and_true, Bool.or_true, Bool.true_or, Bool.or_false, Bool.or_self, Bool.and_self, Bool.false_or, Bool.false_eq_true, Bool.true_eq_false, if_true, if_false]
      go_enter Tryz.func11, Tryz.ntmps11
      go_wp2_with fail
      refine (PL.out _).mono ?_
      rintro e w1 ⟨rfl, b1⟩
      have K1 := K.later b1
      have f1 := K1.cell 1
      have f2 := K1.cell 2
      have f3 := K1.cell 3
      have f4 := K1.cell 4
      have d1 := below_step b0 b1 (Nat.le_refl _)
      clear F0
      go_wp2_with fail
      refine (B1.out _).mono ?_
      rintro e _ ⟨rfl, rfl⟩
      go_wp2_with fail
      refine (B2.out _).mono ?_
      rintro e _ ⟨rfl, rfl⟩
      go_wp2_with fail
      refine (B3.out _).mono ?_
      rintro e _ ⟨rfl, rfl⟩
      go_wp2_with fail
      go_ret
      exact ⟨rfl, d1⟩
    · simp only [Bool.false_and, Bool.and_false, Bool.true_and, Bool.and_true, Bool.or_true, Bool.true_or, Bool.or_false, Bool.or_self, Bool.and_self, Bool.false_or, Bool.false_eq_true, Bool.true_eq_false, if_true, if_false]
      go_enter Tryz.func11, Tryz.ntmps11
      go_wp2_with fail
      refine (PL.out _).mono ?_
      rintro e w1 ⟨rfl, b1⟩
      have K1 := K.later b1
      have f1 := K1.cell 1
      have f2 := K1.cell 2
      have f3 := K1.cell 3
      have f4 := K1.cell 4
      have d1 := below_step b0 b1 (Nat.le_refl _)
      clear F0
      go_wp2_with fail
      refine (B1.out _).mono ?_
      rintro e _ ⟨rfl, rfl⟩
      go_wp2_with fail
      refine (B2.out _).mono ?_
      rintro e _ ⟨rfl, rfl⟩
      go_wp2_with fail
      refine (B3.out _).mono ?_
      rintro e _ ⟨rfl, rfl⟩
      go_wp2_with fail
      go_ret
      exact ⟨rfl, d1⟩
    · simp only [Bool.false_and, Bool.and_false, Bool.true_and, Bool.and_true, Bool.or_true, Bool.true_or, Bool.or_false, Bool.or_self, Bool.and_self, Bool.false_or, Bool.false_eq_true, Bool.true_eq_false, if_true, if_false]
      go_enter Tryz.func11, Tryz.ntmps11
      go_wp2_with fail
      refine (PL.out _).mono ?_
      rintro e w1 ⟨rfl, b1⟩
      have K1 := K.later b1
      have f1 := K1.cell 1
      have f2 := K1.cell 2
      have f3 := K1.cell 3
      have f4 := K1.cell 4
      have d1 := below_step b0 b1 (Nat.le_refl _)
      clear F0
      go_wp2_with fail
      refine (B1.out _).mono ?_
      rintro e _ ⟨rfl, rfl⟩
      go_wp2_with fail
      refine (B2.out _).mono ?_
      rintro e _ ⟨rfl, rfl⟩
      go_wp2_with fail
      refine (B3.out _).mono ?_
      rintro e _ ⟨rfl, rfl⟩
      go_wp2_with fail
      refine (B4.out _).mono ?_
      rintro e _ ⟨rfl, rfl⟩
      go_wp2_with fail
      go_ret
      exact ⟨rfl, d1⟩
    · simp only [Bool.false_and, Bool.and_false, Bool.true_and, Bool.and_true, Bool.or_true, Bool.true_or, Bool.or_false, Bool.or_self, Bool.and_self, Bool.false_or, Bool.false_eq_true, Bool.true_eq_false, if_true, if_false]
      go_enter Tryz.func11, Tryz.ntmps11
      go_wp2_with fail
      refine (PL.out _).mono ?_
      rintro e w1 ⟨rfl, b1⟩
      have K1 := K.later b1
      have f1 := K1.cell 1
      have f2 := K1.cell 2
      have f3 := K1.cell 3
      have f4 := K1.cell 4
      have d1 := below_step b0 b1 (Nat.le_refl _)
      clear F0
      go_wp2_with fail
      refine (B1.out _).mono ?_
      rintro e _ ⟨rfl, rfl⟩
      go_wp2_with fail
      refine (B2.out _).mono ?_
      rintro e _ ⟨rfl, rfl⟩
      go_wp2_with fail
      refine (B3.out _).mono ?_
      rintro e _ ⟨rfl, rfl⟩
      go_wp2_with fail
      refine (B4.out _).mono ?_
      rintro e _ ⟨rfl, rfl⟩
      go_wp2_with fail
      refine (CK.out _ d1).mono ?_
      rintro e w2 ⟨rfl, b2⟩
      go_wp2_with fail
      go_ret
      exact ⟨rfl, below_step d1 b2 (Nat.le_refl _)⟩
    · simp only [Bool.false_and, Bool.and_false, Bool.true_and, Bool.and_true, Bool.or_true, Bool.true_or, Bool.or_false, Bool.or_self, Bool.and_self, Bool.false_or, Bool.false_eq_true, Bool.true_eq_false, if_true, if_false]
      go_enter Tryz.func11, Tryz.ntmps11
      go_wp2_with fail
      refine (PL.out _).mono ?_
      rintro e w1 ⟨rfl, b1⟩
      have K1 := K.later b1
      have f1 := K1.cell 1
      have f2 := K1.cell 2
      have f3 := K1.cell 3
      have f4 := K1.cell 4
      have d1 := below_step b0 b1 (Nat.le_refl _)
      clear F0
      go_wp2_with fail
      refine (B1.out _).mono ?_
      rintro e _ ⟨rfl, rfl⟩
      go_wp2_with fail
      refine (B3.out _).mono ?_
      rintro e _ ⟨rfl, rfl⟩
      go_wp2_with fail
      go_ret
      exact ⟨rfl, d1⟩
    · simp only [Bool.false_and, Bool.and_false, Bool.true_and, Bool.and_true, Bool.or_true, Bool.true_or, Bool.or_false, Bool.or_self, Bool.and_self, Bool.false_or, Bool.false_eq_true, Bool.true_eq_false, if_true, if_false]
      go_enter Tryz.func11, Tryz.ntmps11
      go_wp2_with fail
      refine (PL.out _).mono ?_
      rintro e w1 ⟨rfl, b1⟩
      have K1 := K.later b1
      have f1 := K1.cell 1
      have f2 := K1.cell 2
      have f3 := K1.cell 3
      have f4 := K1.cell 4
      have d1 := below_step b0 b1 (Nat.le_refl _)
      clear F0
      go_wp2_with fail
      refine (B1.out _).mono ?_
      rintro e _ ⟨rfl, rfl⟩
      go_wp2_with fail
      refine (B3.out _).mono ?_
      rintro e _ ⟨rfl, rfl⟩
      go_wp2_with fail
      go_ret
      exact ⟨rfl, d1⟩
    · simp only [Bool.false_and, Bool.and_false, Bool.true_and, Bool.and_true, Bool.or_true, Bool.true_or, Bool.or_false, Bool.or_self, Bool.and_self, Bool.false_or, Bool.false_eq_true, Bool.true_eq_false, if_true, if_false]
      go_enter Tryz.func11, Tryz.ntmps11
      go_wp2_with fail
      refine (PL.out _).mono ?_
      rintro e w1 ⟨rfl, b1⟩
      have K1 := K.later b1
      have f1 := K1.cell 1
      have f2 := K1.cell 2
      have f3 := K1.cell 3
      have f4 := K1.cell 4
      have d1 := below_step b0 b1 (Nat.le_refl _)
      clear F0
      go_wp2_with fail
      refine (B1.out _).mono ?_
      rintro e _ ⟨rfl, rfl⟩
      go_wp2_with fail
      refine (B3.out _).mono ?_
      rintro e _ ⟨rfl, rfl⟩
      go_wp2_with fail
      refine (B4.out _).mono ?_
      rintro e _ ⟨rfl, rfl⟩
      go_wp2_with fail
      go_ret
      exact ⟨rfl, d1⟩
    · simp only [Bool.false_and, Bool.and_false, Bool.true_and, Bool.and_true, Bool.or_true, Bool.true_or, Bool.or_false, Bool.or_self, Bool.and_self, Bool.false_or, Bool.false_eq_true, Bool.true_eq_false, if_true, if_false]
      go_enter Tryz.func11, Tryz.ntmps11
      go_wp2_with fail
      refine (PL.out _).mono ?_
      rintro e w1 ⟨rfl, b1⟩
      have K1 := K.later b1
      have f1 := K1.cell 1
      have f2 := K1.cell 2
      have f3 := K1.cell 3
      have f4 := K1.cell 4
      have d1 := below_step b0 b1 (Nat.le_refl _)
      clear F0
      go_wp2_with fail
      refine (B1.out _).mono ?_
      rintro e _ ⟨rfl, rfl⟩
      go_wp2_with fail
      refine (B3.out _).mono ?_
      rintro e _ ⟨rfl, rfl⟩
      go_wp2_with fail
      refine (B4.out _).mono ?_
      rintro e _ ⟨rfl, rfl⟩
      go_wp2_with fail
      refine (CK.out _ d1).mono ?_
      rintro e w2 ⟨rfl, b2⟩
      go_wp2_with fail
      go_ret
      exact ⟨rfl, below_step d1 b2 (Nat.le_refl _)⟩
    · simp only [Bool.false_and, Bool.and_false, Bool.true_and, Bool.and_true, Bool.or_true, Bool.true_or, Bool.or_false, Bool.or_self, Bool.and_self, Bool.false_or, Bool.false_eq_true, Bool.true_eq_false, if_true, if_false]
      go_enter Tryz.func11, Tryz.ntmps11
      go_wp2_with fail
      refine (PL.out _).mono ?_
      rintro e w1 ⟨rfl, b1⟩
      have K1 := K.later b1
      have f1 := K1.cell 1
      have f2 := K1.cell 2
      have f3 := K1.cell 3
      have f4 := K1.cell 4
      have d1 := below_step b0 b1 (Nat.le_refl _)
      clear F0
      go_wp2_with fail
      refine (B1.out _).mono ?_
      rintro e _ ⟨rfl, rfl⟩
      go_wp2_with fail
      refine (B3.out _).mono ?_
      rintro e _ ⟨rfl, rfl⟩
      go_wp2_with fail
      go_ret
      exact ⟨rfl, d1⟩
    · simp only [Bool.false_and, Bool.and_false, Bool.true_and, Bool.and_true, Bool.or_true, Bool.true_or, Bool.or_false, Bool.or_self, Bool.and_self, Bool.false_or, Bool.false_eq_true, Bool.true_eq_false, if_true, if_false]
      go_enter Tryz.func11, Tryz.ntmps11
      go_wp2_with fail
      refine (PL.out _).mono ?_
      rintro e w1 ⟨rfl, b1⟩
      have K1 := K.later b1
      have f1 := K1.cell 1
      have f2 := K1.cell 2
      have f3 := K1.cell 3
      have f4 := K1.cell 4
      have d1 := below_step b0 b1 (Nat.le_refl _)
      clear F0
      go_wp2_with fail
      refine (B1.out _).mono ?_
      rintro e _ ⟨rfl, rfl⟩
      go_wp2_with fail
      refine (B3.out _).mono ?_
      rintro e _ ⟨rfl, rfl⟩
      go_wp2_with fail
      go_ret
      exact ⟨rfl, d1⟩
    · simp only [Bool.false_and, Bool.and_false, Bool.true_and, Bool.and_true, Bool.or_true, Bool.true_or, Bool.or_false, Bool.or_self, Bool.and_self, Bool.false_or, Bool.false_eq_true, Bool.true_eq_false, if_true, if_false]
      go_enter Tryz.func11, Tryz.ntmps11
      go_wp2_with fail
      refine (PL.out _).mono ?_
      rintro e w1 ⟨rfl, b1⟩
      have K1 := K.later b1
      have f1 := K1.cell 1
      have f2 := K1.cell 2
      have f3 := K1.cell 3
      have f4 := K1.cell 4
      have d1 := below_step b0 b1 (Nat.le_refl _)
      clear F0
      go_wp2_with fail
      refine (B1.out _).mono ?_
      rintro e _ ⟨rfl, rfl⟩
      go_wp2_with fail
      refine (B3.out _).mono ?_
      rintro e _ ⟨rfl, rfl⟩
      go_wp2_with fail
      refine (B4.out _).mono ?_
      rintro e _ ⟨rfl, rfl⟩
      go_wp2_with fail
      go_ret
      exact ⟨rfl, d1⟩
    · simp only [Bool.false_and, Bool.and_false, Bool.true_and, Bool.and_true, Bool.or_true, Bool.true_or, Bool.or_false, Bool.or_self, Bool.and_self, Bool.false_or, Bool.false_eq_true, Bool.true_eq_false, if_true, if_false]
      go_enter Tryz.func11, Tryz.ntmps11
      go_wp2_with fail
      refine (PL.out _).mono ?_
      rintro e w1 ⟨rfl, b1⟩
      have K1 := K.later b1
      have f1 := K1.cell 1
      have f2 := K1.cell 2
      have f3 := K1.cell 3
      have f4 := K1.cell 4
      have d1 := below_step b0 b1 (Nat.le_refl _)
      clear F0
      go_wp2_with fail
      refine (B1.out _).mono ?_
      rintro e _ ⟨rfl, rfl⟩
      go_wp2_with fail
      refine (B3.out _).mono ?_
      rintro e _ ⟨rfl, rfl⟩
      go_wp2_with fail
      refine (B4.out _).mono ?_
      rintro e _ ⟨rfl, rfl⟩
      go_wp2_with fail
      refine (CK.out _ d1).mono ?_
      rintro e w2 ⟨rfl, b2⟩
      go_wp2_with fail
      go_ret
      exact ⟨rfl, below_step d1 b2 (Nat.le_refl _)⟩
  · simp only [ne_eq, hp, not_false_eq_true, if_true]
    have hp2 : (pl == 0) = false := by simpa using hp
    have hp3 : (pl != 0) = true := by simpa using hp
    replace hp := Lib.hid hp
    go_enter Tryz.func11, Tryz.ntmps11
    go_wp2_with fail
    refine (PL.out _).mono ?_
    rintro e w1 ⟨rfl, b1⟩
    go_wp2_with fail
    go_ret
    exact ⟨rfl, below_step b0 b1 (Nat.le_refl _)⟩
set_option maxHeartbeats 1000000 in
theorem TCheck_nil (x y z u q : Value) (w : World) : Calls Tryz.prog 11 #[.pointer none, .agg #[x, y, z, u, q]] w fun e w' => e = .returned (.int .u32 100925511) ∧ Below w.heap.size w w' := by
  go_enter Tryz.func11, Tryz.ntmps11
  go_wp2_with fail
  go_ret
  exact ⟨rfl, alloc_one _ _⟩
end Go.Proofs.YtbmocffnnlfnjaaGreat
/-
  A dictionary that is being made; entries that are read.
  Conditions: none.
-/
namespace Go.Proofs.YtbmocffnnlfnjaaGreat
set_option linter.unusedVariables false
set_option linter.unusedSimpArgs false
open Go.RowKit
/-- An entry's cells, its bytes the call's own. -/
def EnB (w : World) (base : Nat) (e : Ent.En) (cs : List Value) : Prop := ∃ A n c, cs = enL e A n c ∧ OB w base A n c e.dflt
def ByB (w : World) (base : Nat) (b : List UInt8) (cs : List Value) : Prop := ∃ A n c, cs = [.slice A n c] ∧ OB w base A n c b
section
variable {w w' : World} {base base' g i e size n c : Nat} {t : TypeId} {A : Option Addr} {l : List UInt8} {xs : List Value} {ds : Array Value} {u : Value}
/-- Bytes of the call's own are kept where rows of another type are written. -/
theorem OB.beside (h : OB w base A n c l) {A' : Option Addr} {n' c' : Nat} {xs' : List Value} (h' : OV w base' e size A' n' c' xs') (hne : e ≠ 5) (hg : w.grownBy w' (Value.slice A' n' c').ownBlock) : OB w' base A n c l := OB.kept h hg (own_own_ne h' h hne)
theorem OB.off (h : OB w base A n c l) (hb : Blk w g t ds) (ht : t ≠ 5) : OB (w.setCell ⟨g, i, none⟩ u) base A n c l :=
  OB.kept h (row := some g) (grown_setCell (World.grownBy.refl _ _) (.inl rfl) u) (.inr (own_blk_ne h hb (Ne.symm ht)))
theorem OV.off (h : OV w base e size A n c xs) (hb : Blk w g t ds) (ht : t ≠ e) : OV (w.setCell ⟨g, i, none⟩ u) base e size A n c xs :=
  OV.kept h (row := some g) (grown_setCell (World.grownBy.refl _ _) (.inl rfl) u) (.inr (own_blk_ne h hb (Ne.symm ht)))
theorem OV.beside (h : OV w base e size A n c xs) {e' size' : Nat} {A' : Option Addr} {n' c' : Nat} {xs' : List Value} (h' : OV w base' e' size' A' n' c' xs') (hne : e' ≠ e) (hg : w.grownBy w' (Value.slice A' n' c').ownBlock) : OV w' base e size A n c xs := OV.kept h hg (own_own_ne h' h hne)
theorem Blk.beside (h : Blk w g t ds) {A' : Option Addr} {n' c' : Nat} {xs' : List Value} (h' : OV w base' e size A' n' c' xs') (hne : e ≠ t) (hg : w.grownBy w' (Value.slice A' n' c').ownBlock) : Blk w' g t ds := h.grown hg (fun q => own_blk_ne h' h hne q.symm)
end
section
variable {w w' : World} {base g i size n c : Nat} {t e' : TypeId} {e : Ent.En} {b : List UInt8} {cs xs : List Value} {A : Option Addr} {ds : Array Value} {u : Value}
theorem EnB.below (h : EnB w base e cs) (hb : Below w.heap.size w w') : EnB w' base e cs := by obtain ⟨A, n, c, h1, h2⟩ := h; exact ⟨A, n, c, h1, h2.below hb⟩
theorem ByB.below (h : ByB w base b cs) (hb : Below w.heap.size w w') : ByB w' base b cs := by obtain ⟨A, n, c, h1, h2⟩ := h; exact ⟨A, n, c, h1, h2.below hb⟩
theorem EnB.beside {base' : Nat} (h : EnB w base e cs) (h' : OV w base' e' size A n c xs) (hne : e' ≠ 5) (hg : w.grownBy w' (Value.slice A n c).ownBlock) : EnB w' base e cs := by obtain ⟨A1, n1, c1, h1, h2⟩ := h; exact ⟨A1, n1, c1, h1, h2.beside h' hne hg⟩
theorem ByB.beside {base' : Nat} (h : ByB w base b cs) (h' : OV w base' e' size A n c xs) (hne : e' ≠ 5) (hg : w.grownBy w' (Value.slice A n c).ownBlock) : ByB w' base b cs := by obtain ⟨A1, n1, c1, h1, h2⟩ := h; exact ⟨A1, n1, c1, h1, h2.beside h' hne hg⟩
theorem EnB.off (h : EnB w base e cs) (hb : Blk w g t ds) (ht : t ≠ 5) : EnB (w.setCell ⟨g, i, none⟩ u) base e cs := by obtain ⟨A1, n1, c1, h1, h2⟩ := h; exact ⟨A1, n1, c1, h1, h2.off hb ht⟩
theorem ByB.off (h : ByB w base b cs) (hb : Blk w g t ds) (ht : t ≠ 5) : ByB (w.setCell ⟨g, i, none⟩ u) base b cs := by obtain ⟨A1, n1, c1, h1, h2⟩ := h; exact ⟨A1, n1, c1, h1, h2.off hb ht⟩
end
/-- A dictionary that is being made, at block g. -/
structure NwM (t : TypeId) (w : World) (base g : Nat) (lA : Option Addr) (kl lc : Nat) (vA : Option Addr) (kv vc : Nat) (es : List Ent.En) (bs : List (List UInt8)) : Prop where
  gb : base ≤ g
  blk : Blk w g t #[.slice lA kl lc, .slice vA kv vc]
  row : OS (EnB w base) w base 63 11 lA kl lc es
  vrow : OS (ByB w base) w base 49 1 vA kv vc bs
section
variable {t : TypeId} {w w' : World} {base g kl lc kv vc : Nat} {lA vA : Option Addr} {es : List Ent.En} {bs : List (List UInt8)}
theorem NwM.below (h : NwM t w base g lA kl lc vA kv vc es bs) (hb : Below w.heap.size w w') : NwM t w' base g lA kl lc vA kv vc es bs :=
  ⟨h.gb, h.blk.later hb, OS.below h.row hb fun _ _ k => k.below hb, OS.below h.vrow hb fun _ _ k => k.below hb⟩
/-- Behind an append to its entries, and the store of the new slice. -/
theorem NwM.addl (h : NwM t w base g lA kl lc vA kv vc es bs) (ht : t ≠ 5) (hte : t ≠ 63) (htv : t ≠ 49) {A1 : Option Addr} {k1 c1 : Nat} {es' : List Ent.En} (hrow : OS (EnB w' base) w' base 63 11 A1 k1 c1 es') (hg : w.grownBy w' (Value.slice lA kl lc).ownBlock) :
    NwM t (w'.setCell ⟨g, 0, none⟩ (.slice A1 k1 c1)) base g A1 k1 c1 vA kv vc es' bs := by
  have hr := h.row
  obtain ⟨xs0, r0, _⟩ := hr
  have hb : Blk w' g t #[.slice lA kl lc, .slice vA kv vc] := h.blk.beside r0 (Ne.symm hte) hg
  refine ⟨h.gb, hb.set_ 0 _, ?_, ?_⟩
  · obtain ⟨ys, o1, o2⟩ := hrow
    exact ⟨ys, o1.off hb hte, o2.imp fun _ _ k => k.off hb ht⟩
  · obtain ⟨ys, o1, o2⟩ := h.vrow
    have o1' := OV.beside o1 r0 (by decide) hg
    exact ⟨ys, o1'.off hb htv, o2.imp fun _ _ k => (k.beside r0 (by decide) hg).off hb ht⟩
theorem NwM.addv (h : NwM t w base g lA kl lc vA kv vc es bs) (ht : t ≠ 5) (hte : t ≠ 63) (htv : t ≠ 49) {A1 : Option Addr} {k1 c1 : Nat} {bs' : List (List UInt8)} (hrow : OS (ByB w' base) w' base 49 1 A1 k1 c1 bs') (hg : w.grownBy w' (Value.slice vA kv vc).ownBlock) :
    NwM t (w'.setCell ⟨g, 1, none⟩ (.slice A1 k1 c1)) base g lA kl lc A1 k1 c1 es bs' := by
  have hr := h.vrow
  obtain ⟨xs0, r0, _⟩ := hr
  have hb : Blk w' g t #[.slice lA kl lc, .slice vA kv vc] := h.blk.beside r0 (Ne.symm htv) hg
  refine ⟨h.gb, hb.set_ 1 _, ?_, ?_⟩
  · obtain ⟨ys, o1, o2⟩ := h.row
    have o1' := OV.beside o1 r0 (by decide) hg
    exact ⟨ys, o1'.off hb hte, o2.imp fun _ _ k => (k.beside r0 (by decide) hg).off hb ht⟩
  · obtain ⟨ys, o1, o2⟩ := hrow
    exact ⟨ys, o1.off hb htv, o2.imp fun _ _ k => k.off hb ht⟩
/-- Made. -/
theorem NwM.made {n : Nat} (h : NwM t w base g lA n lc vA n vc es bs) (ht : t ≠ 5) (hte : t ≠ 63) (htv : t ≠ 49) (hl : es.length = n) (hbs : bs.length = n) (ho : Dc.Ord es) (h96 : n ≤ 96) (hr : ∀ e ∈ es, Ent.rightS e = 0) :
    ∃ gv xs vs, DRt t w (fun q => base ≤ q) g gv lA lc vA vc xs vs ⟨es, bs⟩ := by
  obtain ⟨xs, r1, r2⟩ := h.row
  obtain ⟨vs, v1, v2⟩ := h.vrow
  subst hl
  have hgl := h.blk.lt
  have hgv : ∃ gv, gv ≠ g ∧ (∀ k, (Value.slice vA es.length vc).ownBlock = some k → k = gv) ∧ ∀ {e' size' n' c' : Nat} {A' : Option Addr} {zs : List Value}, OV w base e' size' A' n' c' zs → 49 ≠ e' → ∀ k, (Value.slice A' n' c').ownBlock = some k → k ≠ gv := by
    cases hk : (Value.slice vA es.length vc).ownBlock with
    | none => exact ⟨w.heap.size, by omega, (fun k e => by cases e), (fun ho _ k hk => by have := (ho.lt k hk).2; omega)⟩
    | some q =>
      refine ⟨q, fun e => own_blk_ne v1 h.blk (Ne.symm htv) (by rw [hk, e]), (fun k e => by injection e with e; exact e.symm), fun ho hne k hk2 e => ?_⟩
      rcases own_own_ne v1 ho hne with h5 | h5
      · rw [h5] at hk2; cases hk2
      · exact h5 (by rw [hk2, hk, e])
  obtain ⟨gv, g1, g2, g3⟩ := hgv
  have bytes : ∀ {A : Option Addr} {n c : Nat} {b : List UInt8}, OB w base A n c b → RBp w (Fx (fun q => base ≤ q) g gv) A n c b := fun ho => ho.rbp fun k hk =>
    ⟨(ho.lt k hk).1, fun e => own_blk_ne ho h.blk (Ne.symm ht) (by rw [hk, e]), g3 (A' := _) (zs := _) ho (by decide) k hk⟩
  refine ⟨gv, xs, vs, { fg := h.gb, ne := Ne.symm g1, blk := h.blk, row := r1.rvp fun k hk => ⟨(r1.lt k hk).1, fun e => own_blk_ne r1 h.blk (Ne.symm hte) (by rw [hk, e]), g3 r1 (by decide) k hk⟩, rows := r2.imp fun e cs he => ?_, own := v1.more (Nat.zero_le _), at_ := fun k hk => ?_, vals := v2.imp fun b cs hb => ?_, len := hbs, ord := ho, few := h96, right := hr }⟩
  · obtain ⟨A, n, c, e1, e2⟩ := he
    exact ⟨A, n, c, e1, bytes e2⟩
  · have := g2 k hk
    exact ⟨this, by rw [← this]; exact (v1.lt k hk).1⟩
  · obtain ⟨A, n, c, e1, e2⟩ := hb
    exact ⟨A, n, c, e1, bytes e2⟩
end
/-- An entry's cells, as they are read. -/
def EnC (w : World) (B : Nat) (e : Ent.En) (cs : List Value) : Prop := ∃ A n c, cs = enL e A n c ∧ RB w B A n c e.dflt
/-- Entries that are read; their bytes below B'. -/
def REn (w : World) (B B' : Nat) (A : Option Addr) (n c : Nat) (es : List Ent.En) : Prop := RS (EnC w B') w B 11 A n c es
section
variable {w w' : World} {B B' n c : Nat} {A : Option Addr} {es : List Ent.En}
theorem REn.len (h : REn w B B' A n c es) : es.length = n := RS.len h (by decide)
theorem REn.lt (h : REn w B B' A n c es) : n ≤ 9223372036854775807 := RS.lt h
theorem REn.below (h : REn w B B' A n c es) (hb : Below B w w') (hB : B' ≤ B) : REn w' B B' A n c es := RS.below h hb fun _ _ k => by
  obtain ⟨A, n, c, h1, h2⟩ := k
  exact ⟨A, n, c, h1, h2.below (hb.mono hB)⟩
theorem REn.at_ (h : REn w B B' A n c es) {i : Nat} (hi : i < n) : ∃ b o A1 n1 c1, A = some ⟨b, o, none⟩ ∧ b < B ∧ RB w B' A1 n1 c1 (es.getD i Dc.en0).dflt ∧
    ∀ j u, (enL (es.getD i Dc.en0) A1 n1 c1)[j]? = some u → w.cell? ⟨b, o + i * 11 + j, none⟩ = some u := by
  have hl := h.len
  have hf : es[i]? = some (es.getD i Dc.en0) := by simp [List.getD, List.getElem?_eq_getElem (show i < es.length by omega)]
  obtain ⟨b, o, cs, rfl, hb, ⟨A1, n1, c1, rfl, hr⟩, hc⟩ := RS.at_ h (by decide) hf
  exact ⟨b, o, A1, n1, c1, rfl, hb, hr, fun j u hu => hc j u (by have := (List.getElem?_eq_some_iff.1 hu).1; simpa [enL] using this) hu⟩
end
theorem en_oneCell (e : Ent.En) (A : Option Addr) (n c : Nat) : ∀ u ∈ enL e A n c, u.oneCell' = true := by
  intro u hu
  simp only [enL, List.mem_cons, List.not_mem_nil, or_false] at hu
  rcases hu with rfl | rfl | rfl | rfl | rfl | rfl | rfl | rfl | rfl | rfl | rfl <;> rfl
theorem newF_step {l : List Ent.En} {k n : Nat} (h : k < n) : Dc.newF l (n - k) k = if Ent.rightS (l.getD k Dc.en0) ≠ 0 then (Ent.rightS (l.getD k Dc.en0), k) else if 0 < k ∧ Ent.befB (l.getD (k - 1) Dc.en0) (l.getD k Dc.en0) = false then (16, k) else Dc.newF l (n - (k + 1)) (k + 1) := by
  obtain ⟨m, hm⟩ : ∃ m, n - k = m + 1 := ⟨n - k - 1, by omega⟩
  rw [hm, Dc.newF, show n - (k + 1) = m by omega]
/-- What New hands back: a dictionary, or why there is none. -/
def NewPost (t : TypeId) (es : List Ent.En) (w : World) (e : Ending) (w' : World) : Prop :=
  ((Dc.newS es).1 = 0 ∧ Below w.heap.size w w' ∧ ∃ (g gv lc vc : Nat) (la : Addr) (vA : Option Addr) (xs vs : List Value), e = .returned (.tuple #[.pointer (some ⟨g, 0, none⟩), .int .i64 0, .int .i64 0]) ∧ DRt t w' (fun q => w.heap.size ≤ q) g gv (some la) lc vA vc xs vs ⟨es, es.map (·.dflt)⟩) ∨
  ((Dc.newS es).1 ≠ 0 ∧ Below w.heap.size w w' ∧ e = .returned (.tuple #[.pointer none, .int .i64 (Dc.newS es).1, .int .i64 ((Dc.newS es).2 : Int)]))
theorem new_no {t : TypeId} {es : List Ent.En} {w w' : World} {x y : Int} {q : Nat} (h : Dc.newS es = (x, q)) (hx : x ≠ 0) (hy : y = (q : Int)) (hb : Below w.heap.size w w') : NewPost t es w (.returned (.tuple #[.pointer none, .int .i64 x, .int .i64 y])) w' := by
  subst hy
  exact .inr ⟨by rw [h]; exact hx, hb, by rw [h]⟩
end Go.Proofs.YtbmocffnnlfnjaaGreat
/-
  Values in memory; Light of the references of layers 15 and 18; entries and values as arguments.
  Conditions: none.
-/
namespace Go.Proofs.YtbmocffnnlfnjaaGreat
set_option linter.unusedVariables false
set_option linter.unusedSimpArgs false
open Go.ChangeShapes Go.WideShapes Go.ChangeAt Go.RowKit
/-- The cells of a value that is read; its bytes below B. -/
def VlC (w : World) (B : Nat) (f : Dc.Vl) (cs : List Value) : Prop := ∃ A n c, cs = [.int .i64 f.index, .int .i64 f.sub, .slice A n c] ∧ RB w B A n c f.data
theorem VlC.below {w w' : World} {B : Nat} {f : Dc.Vl} {cs : List Value} (hb : Below B w w') (h : VlC w B f cs) : VlC w' B f cs := by
  obtain ⟨A, n, c, h1, h2⟩ := h
  exact ⟨A, n, c, h1, h2.below hb⟩
theorem VlC.more {w : World} {B B' : Nat} {f : Dc.Vl} {cs : List Value} (hB : B ≤ B') (h : VlC w B f cs) : VlC w B' f cs := by
  obtain ⟨A, n, c, h1, h2⟩ := h
  exact ⟨A, n, c, h1, h2.more hB⟩
def vl0 : Dc.Vl := ⟨0, 0, []⟩
def RVl (w : World) (B B' : Nat) (A : Option Addr) (n c : Nat) (fs : List Dc.Vl) : Prop := RS (VlC w B') w B 3 A n c fs
section
variable {w w' : World} {B B' n c : Nat} {A : Option Addr} {fs : List Dc.Vl}
theorem RVl.len (h : RVl w B B' A n c fs) : fs.length = n := RS.len h (by decide)
theorem RVl.lt (h : RVl w B B' A n c fs) : n ≤ 9223372036854775807 := RS.lt h
theorem RVl.below (h : RVl w B B' A n c fs) (hb : Below B w w') (hB : B' ≤ B) : RVl w' B B' A n c fs := RS.below h hb fun _ _ h => h.below (hb.mono hB)
theorem RVl.at_ (h : RVl w B B' A n c fs) {i : Nat} (hi : i < n) : ∃ b o A' n' c', A = some ⟨b, o, none⟩ ∧ b < B ∧ w.cell? ⟨b, o + i * 3, none⟩ = some (.int .i64 (fs.getD i vl0).index) ∧
    w.cell? ⟨b, o + i * 3 + 1, none⟩ = some (.int .i64 (fs.getD i vl0).sub) ∧ w.cell? ⟨b, o + i * 3 + 2, none⟩ = some (.slice A' n' c') ∧ RB w B' A' n' c' (fs.getD i vl0).data := by
  have hl := h.len
  have hf : fs[i]? = some (fs.getD i vl0) := by simp [List.getD, List.getElem?_eq_getElem (show i < fs.length by omega)]
  obtain ⟨b, o, cs, rfl, hb, ⟨A', n', c', rfl, hr⟩, hc⟩ := RS.at_ h (by decide) hf
  exact ⟨b, o, A', n', c', rfl, hb, hc 0 _ (by decide) rfl, hc 1 _ (by decide) rfl, hc 2 _ (by decide) rfl, hr⟩
end
section
variable {H : Type} {enc : TypeId × Value → H} {w : World} {spare : Nat → Bool} {held : Bool}
set_option maxRecDepth 100000 in
theorem cells_entry {fuel : Nat} {cs : List Value} {x : DataW H × List MemPlace} (h : DataW.trod enc Tryz.prog w 0 spare held fuel 63 cs = some x) : ∃ e, EnC w w.heap.size e cs ∧ e.name.length ≤ 9223372036854775807 := by
  have h3 : cs.length = 11 := trod_len Tryz.underlying63 h (by kernel_rfl)
  match cs, h3 with
  | [a0, a1, a2, a3, a4, a5, a6, a7, a8, a9, a10], _ =>
    obtain ⟨_, _, t0⟩ := trod_one Tryz.underlying63 h 0 3 0 a0 rfl (by kernel_rfl) rfl
    obtain ⟨_, _, t1⟩ := trod_one Tryz.underlying63 h 1 3 1 a1 rfl (by kernel_rfl) rfl
    obtain ⟨_, _, t2⟩ := trod_one Tryz.underlying63 h 2 9 2 a2 rfl (by kernel_rfl) rfl
    obtain ⟨_, _, t3⟩ := trod_one Tryz.underlying63 h 3 3 3 a3 rfl (by kernel_rfl) rfl
    obtain ⟨_, _, t4⟩ := trod_one Tryz.underlying63 h 4 3 4 a4 rfl (by kernel_rfl) rfl
    obtain ⟨_, _, t5⟩ := trod_one Tryz.underlying63 h 5 4 5 a5 rfl (by kernel_rfl) rfl
    obtain ⟨_, _, t6⟩ := trod_one Tryz.underlying63 h 6 4 6 a6 rfl (by kernel_rfl) rfl
    obtain ⟨_, _, t7⟩ := trod_one Tryz.underlying63 h 7 3 7 a7 rfl (by kernel_rfl) rfl
    obtain ⟨_, _, t8⟩ := trod_one Tryz.underlying63 h 8 2 8 a8 rfl (by kernel_rfl) rfl
    obtain ⟨_, _, t9⟩ := trod_one Tryz.underlying63 h 9 2 9 a9 rfl (by kernel_rfl) rfl
    obtain ⟨_, _, t10⟩ := trod_one Tryz.underlying63 h 10 49 10 a10 rfl (by kernel_rfl) rfl
    obtain ⟨i0, rfl, _⟩ := cell_int Tryz.underlying3 t0
    obtain ⟨i1, rfl, _⟩ := cell_int Tryz.underlying3 t1
    obtain ⟨s, rfl, hs⟩ := cell_string Tryz.underlying9 t2
    obtain ⟨i3, rfl, _⟩ := cell_int Tryz.underlying3 t3
    obtain ⟨i4, rfl, _⟩ := cell_int Tryz.underlying3 t4
    obtain ⟨b5, rfl⟩ := cell_bool Tryz.underlying4 t5
    obtain ⟨b6, rfl⟩ := cell_bool Tryz.underlying4 t6
    obtain ⟨i7, rfl, _⟩ := cell_int Tryz.underlying3 t7
    obtain ⟨i8, rfl, _⟩ := cell_int Tryz.underlying2 t8
    obtain ⟨i9, rfl, _⟩ := cell_int Tryz.underlying2 t9
    obtain ⟨A, n, c, l, rfl, hr⟩ := cell_bytes Tryz.underlying49 Tryz.underlying5 (by kernel_rfl) t10
    obtain ⟨nm, rfl⟩ := T_of s
    rw [T_size] at hs
    exact ⟨⟨i0, i1, nm, i3, i4, b5, b6, i7, i8, i9, l⟩, ⟨A, n, c, rfl, hr⟩, by simpa [maxLen] using hs⟩
/-- Entries, as their slice's cell. -/
theorem cell_entries {fuel : Nat} {v : Value} {x : DataW H × List MemPlace} (h : DataW.trod enc Tryz.prog w 0 spare held fuel 22 [v] = some x) :
    ∃ (A : Option Addr) (n c : Nat) (es : List Ent.En), v = .slice A n c ∧ REn w w.heap.size w.heap.size A n c es ∧ ∀ e ∈ es, e.name.length ≤ 9223372036854775807 := by
  obtain ⟨A, n, c, rfl⟩ := cell_slice Tryz.underlying22 h
  obtain ⟨es, xs, hl, h1, h2⟩ := open_rows (fun e cs => EnC w w.heap.size e cs ∧ e.name.length ≤ 9223372036854775807) Tryz.underlying22 (show Tryz.prog.cellsOf 63 = 11 by kernel_rfl) (by decide) (fun _ _ _ h => cells_entry h) h
  refine ⟨A, n, c, es, rfl, ⟨xs, h1, h2.imp fun _ _ h => h.1⟩, fun f hm => ?_⟩
  obtain ⟨i, hi, rfl⟩ := List.getElem_of_mem hm
  exact (h2.2 i _ (List.getElem?_eq_getElem hi)).2
end
/-- What Light tells of entries. -/
def Light15P (n : Nat) (es : List Ent.En) (w : World) (e : Ending) (w' : World) : Prop := ∃ b : Bool, e = .returned (.bool b) ∧ w = w' ∧ (b = true → n ≤ 200 ∧ ∀ e ∈ es, e.name.length ≤ 1000 ∧ e.dflt.length ≤ 1000)
theorem light15_no {n : Nat} {es : List Ent.En} {w : World} : Light15P n es w (.returned (.bool false)) w := ⟨false, rfl, rfl, fun h => by cases h⟩
theorem light15_yes {n : Nat} {es : List Ent.En} {w : World} (hl : es.length = n) (h : n ≤ 200 ∧ ∀ i, i < n → (es.getD i Dc.en0).name.length ≤ 1000 ∧ (es.getD i Dc.en0).dflt.length ≤ 1000) : Light15P n es w (.returned (.bool true)) w :=
  ⟨true, rfl, rfl, fun _ => ⟨h.1, fun e he => by
    obtain ⟨i, hi, rfl⟩ := List.getElem_of_mem he
    have := h.2 i (by omega)
    rwa [List.getD_eq_getElem?_getD, List.getElem?_eq_getElem hi] at this⟩⟩
set_option maxRecDepth 100000 in
set_option maxHeartbeats 1000000 in
theorem Light15_any {A : Option Addr} {n c B B' : Nat} {es : List Ent.En} (w : World) (h : REn w B B' A n c es) (hnm : ∀ e ∈ es, e.name.length ≤ 9223372036854775807) :
    Calls Tryz.prog 29 #[.slice A n c] w (Light15P n es w) := by
  have hn := h.lt
  have hl := h.len
  by_cases h200 : 200 < n
  · go_enter Tryz.func29, Tryz.ntmps29
    go_wp2_with fail
    go_ret
    exact light15_no
  · have HL := Lib.hid hl
    go_enter Tryz.func29, Tryz.ntmps29
    go_wp2_with fail
    go_loop [3] (fun i => ∃ k : Nat, k ≤ n ∧ i = .int .i64 k ∧ ∀ j, j < k → (es.getD j Dc.en0).name.length ≤ 1000 ∧ (es.getD j Dc.en0).dflt.length ≤ 1000) (fun i => n - (intOf i).toNat)
    case atStart => exact ⟨0, by omega, rfl, fun _ h => absurd h (by omega)⟩
    case round =>
      obtain ⟨k, hk, rfl, hall⟩ := hrel
      have HALL := Lib.hid hall; clear hall
      by_cases hlt : k < n
      · obtain ⟨b, o, A1, n1, c1, rfl, hbB, hr, hc⟩ := h.at_ hlt
        have q2 := hc 2 _ rfl
        have q10 := hc 10 _ rfl
        have hrl := hr.len
        have hmem : es.getD k Dc.en0 ∈ es := by
          rw [List.getD_eq_getElem?_getD, List.getElem?_eq_getElem (by omega)]
          exact List.getElem_mem _
        have hnl := hnm _ hmem
        have HJ := Lib.hid (fun (h1 : (es.getD k Dc.en0).name.length ≤ 1000) (h2 : n1 ≤ 1000) (j : Nat) (hj : j < k + 1) => show (es.getD j Dc.en0).name.length ≤ 1000 ∧ (es.getD j Dc.en0).dflt.length ≤ 1000 from by
          rcases Nat.lt_or_ge j k with h | h
          · exact HALL.out j h
          · obtain rfl : j = k := by omega
            exact ⟨h1, by rw [hrl]; exact h2⟩)
        clear hmem hrl hr hc hnm hl
        generalize es.getD k Dc.en0 = e0 at *
        obtain ⟨ix, sb, nm, ty, ac, mp, st, mx, lo, hi, df⟩ := e0
        dsimp only at q2 q10 hnl HJ
        have hts := T_size nm
        by_cases hbig : 1000 < n1
        · go_wp2_with fail
          go_ret
          exact light15_no
        · by_cases hbig2 : 1000 < nm.length
          · go_wp2_with fail
            go_ret
            exact light15_no
          · have HTS := Lib.hid hts
            go_wp2_with fail
            go_round
            case rel => exact ⟨k + 1, by omega, by go_num, HJ.out (by omega) (by omega)⟩
            case measure => simp [intOf] <;> omega
      · obtain rfl : k = n := by omega
        go_wp2_with fail
        go_ret
        exact light15_yes HL.out ⟨by omega, HALL.out⟩
end Go.Proofs.YtbmocffnnlfnjaaGreat
/-
  A PDO that is sent, in memory; regions whose stores follow all their reads.
  Conditions: none.
-/
namespace Go.Proofs.YtbmocffnnlfnjaaGreat
set_option linter.unusedVariables false
set_option linter.unusedSimpArgs false
open Go.RowKit
/-- The worlds in which K holds. -/
structure Wk (K : World → Prop) (w0 : Subtype K) where
  val : World
  ok : K val
instance instWk (K : World → Prop) (w0 : Subtype K) : Nonempty (Wk K w0) := ⟨⟨w0.1, w0.2⟩⟩
section
variable {P : Program} {Q : Exit → Act → World → Prop} {md : Region.Mode} {t : Nat} {K : World → Prop} {w0 : Subtype K}
theorem region_wk {id : Nat} {l : List Oper} {a : Act} {w : World} (t : Nat) (w0 : Subtype K) (hm : P.follows .mixedOrders = true)
    (h : wpAnyL P .any l.toArray (NoPanic Q) t (fun x => ∃ v : Wk K w0, x = v.val) l.length (Array.replicate l.length false) a w.drew) : (Code.region id l.toArray true).wp P Q a w :=
  wp_region_noPanic (wp_region_any hm (by simpa using wpAny_of_L _ _ _ _ h))
theorem phase_wk {l : List Oper} (hsel : Region.noSelect l.toArray = true) (fuel : Nat) {w : World} (hb : K w) (σ : List Nat) {n : Nat} {listed : Array Bool} {a : Act} (hn : n = σ.length + fuel) (hok : okPhaseL md l t listed σ = true)
    (h : wpQuiet P l.toArray (fun x => ∃ v : Wk K w0, x = v.val) (fun a' => wpAnyL P md l.toArray (NoPanic Q) t (fun x => ∃ v : Wk K w0, x = v.val) fuel (after listed σ) a' w) (picks l σ) a) :
    wpAnyL P md l.toArray (NoPanic Q) t (fun x => ∃ v : Wk K w0, x = v.val) n listed a w := phaseL_of hsel (fun _ _ _ _ _ h => h) fuel w ⟨⟨w, hb⟩, rfl⟩ σ listed a hn hok h
theorem behind_wk {l : List Oper} {fuel : Nat} {listed : Array Bool} {a : Act} {w : World} (hb : K w)
    (h : wpAnyL P md l.toArray Q t (fun x => ∃ v : Wk K w0, x = v.val) fuel listed a w) : Qn (fun a' w' => BehindL P md l Q t (fun x => ∃ v : Wk K w0, x = v.val) fuel listed a' w') Q .normal a w :=
  ⟨_, ⟨⟨w, hb⟩, rfl⟩, fun _ hx => hx, h⟩
end
theorem ett : ET Tryz.prog 24 23 1 4 (.int .u32 0) := ⟨Tryz.underlying24, info_parts (by kernel_rfl), rfl, by decide⟩
/-- Words of the call's own. -/
def OWt (w : World) (base : Nat) (A : Option Addr) (n c : Nat) (ws : List Nat) : Prop := OV w base 23 1 A n c (ws.map fun (x : Nat) => Value.int .u32 (x : Int))
theorem OWt.rw {w : World} {base n c : Nat} {A : Option Addr} {ws : List Nat} (h : OWt w base A n c ws) : RW w w.heap.size A n c ws := OV.rv h
structure TpM (w : World) (base g gd : Nat) (v : Nat) (t inh ev : Int) (ws : List Nat) (Aw : Option Addr) (cw : Nat) (s : Tp.St) : Prop where
  gb : base ≤ g
  blk : Blk w g 75 #[.pointer (some ⟨gd, 0, none⟩), .int .u32 (v : Int), .int .i64 t, .int .i64 inh, .int .i64 ev, .slice Aw ws.length cw, .int .i64 (Cob.pdo v : Int), .bool s.due, .int .i64 s.hold, .int .i64 s.left, .int .i64 s.count]
  words : OWt w base Aw ws.length cw ws
section
variable {w w' : World} {base g gd v : Nat} {t inh ev : Int} {ws : List Nat} {Aw : Option Addr} {cw : Nat} {s : Tp.St}
theorem TpM.below (h : TpM w base g gd v t inh ev ws Aw cw s) (hb : Below w.heap.size w w') : TpM w' base g gd v t inh ev ws Aw cw s := ⟨h.gb, h.blk.later hb, h.words.below hb⟩
set_option maxHeartbeats 1000000 in
theorem driven_any (h : TpM w base g gd v t inh ev ws Aw cw s) : Calls Tryz.prog 44 #[.pointer (some ⟨g, 0, none⟩)] w fun e w' => e = .returned (.bool (decide (254 ≤ t))) ∧ w = w' := by
  have F := h.blk.cell 2
  go_enter Tryz.func44, Tryz.ntmps44
  go_wp2_with fail
  go_ret
  exact ⟨rfl, rfl⟩
set_option maxHeartbeats 1000000 in
theorem TpId_any (h : TpM w base g gd v t inh ev ws Aw cw s) : Calls Tryz.prog 26 #[.pointer (some ⟨g, 0, none⟩)] w fun e w' => e = .returned (.int .i64 (Cob.pdo v : Int)) ∧ w = w' := by
  have F := h.blk.cell 6
  go_enter Tryz.func26, Tryz.ntmps26
  go_wp2_with fail
  go_ret
  exact ⟨rfl, rfl⟩
/-- All four of the state are stored. -/
theorem TpM.put (h : TpM w base g gd v t inh ev ws Aw cw s) (s' : Tp.St) : TpM ((((w.setCell ⟨g, 7, none⟩ (.bool s'.due)).setCell ⟨g, 8, none⟩ (.int .i64 s'.hold)).setCell ⟨g, 9, none⟩ (.int .i64 s'.left)).setCell ⟨g, 10, none⟩ (.int .i64 s'.count)) base g gd v t inh ev ws Aw cw s' := by
  have b1 := h.blk.set_ 7 (.bool s'.due)
  have b2 := b1.set_ 8 (.int .i64 s'.hold)
  have b3 := b2.set_ 9 (.int .i64 s'.left)
  have b4 := b3.set_ 10 (.int .i64 s'.count)
  have o1 := OV.off (i := 7) (u := .bool s'.due) h.words h.blk (by decide)
  have o2 := OV.off (i := 8) (u := .int .i64 s'.hold) o1 b1 (by decide)
  have o3 := OV.off (i := 9) (u := .int .i64 s'.left) o2 b2 (by decide)
  have o4 := OV.off (i := 10) (u := .int .i64 s'.count) o3 b3 (by decide)
  exact ⟨h.gb, b4, o4⟩
end
end Go.Proofs.YtbmocffnnlfnjaaGreat
