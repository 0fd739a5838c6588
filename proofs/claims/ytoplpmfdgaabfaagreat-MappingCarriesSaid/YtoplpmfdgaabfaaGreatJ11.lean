/-
  Texts joined: MapWhy, MapCheck, MapRight, BitPure, BitFld.
  Conditions: none.
-/
import Derived.Test.YtoplpmfdgaabfaaGreatJ01
import Derived.Test.YtoplpmfdgaabfaaGreatJ03
import Derived.Test.YtoplpmfdgaabfaaGreatJ10
import Derived.Test.YtoplpmfdgaabfaaGreatProg
/-
  Walks: one of layer 30.
  Conditions: none.
-/
namespace Go.Proofs.YtoplpmfdgaabfaaGreat
set_option linter.unusedVariables false
set_option linter.unusedSimpArgs false
open Go.RowKit
set_option maxRecDepth 100000 in
set_option maxHeartbeats 4000000 in
theorem one_any {F : Nat → Prop} {w : World} {g gv lc vc : Nat} {la : Addr} {vA : Option Addr} {xs vs : List Value} {D : Dc.Dic} (v : Nat) (hv : v < 4294967296) (inn : Bool) (h : DRt 89 w F g gv (some la) lc vA vc xs vs D) (hd : ∀ e ∈ D.l, e.dflt.length ≤ 1000000) : Calls Tryz.prog 49 #[.pointer (some ⟨g, 0, none⟩), .int .u32 (v : Int), .bool inn] w fun e w' => e = .returned (.int .u32 (Mp.oneS D.l inn v)) ∧ Below w.heap.size w w' := by
  have FN := find_any v hv h hd
  unfold FindP at FN
  cases hf : Dc.findS D.l (Mp.ix v) (Mp.sb v) with
  | none =>
    have ho : Mp.oneS D.l inn v = if Dc.inB D.l (Mp.ix v) = true then 101253137 else 100794368 := by unfold Mp.oneS; rw [hf]
    rw [hf] at FN
    dsimp only at FN
    rw [ho]
    clear ho hf
    cases hi : Dc.inB D.l (Mp.ix v)
    all_goals
      rw [hi] at FN
      simp only [if_true, Bool.false_eq_true, if_false] at FN
      simp only [if_true, Bool.false_eq_true, if_false]
      replace FN := Lib.hid FN
      clear hi
      go_enter Tryz.func49, Tryz.ntmps49
      go_wp2_with fail
      refine (FN.out).mono ?_
      rintro e w1 ⟨rfl, b1⟩
      go_wp2_with fail
      go_ret
      exact ⟨rfl, below_step b1 (alloc_one _ _) (Nat.le_refl _)⟩
  | some k =>
    have ho : Mp.oneS D.l inn v = if (D.l.getD k Dc.en0).map = false ∨ ((Ty.kd (D.l.getD k Dc.en0).type).bits : Int) ≠ (Mp.bt v : Int) ∨ (if inn = true then Ent.writS (D.l.getD k Dc.en0) else Ent.readS (D.l.getD k Dc.en0)) ≠ 0 then 100925505 else 0 := by unfold Mp.oneS; rw [hf]
    rw [hf] at FN
    dsimp only at FN
    rw [ho]
    clear ho hf
    generalize D.l.getD k Dc.en0 = e0 at *
    obtain ⟨ix, sb, nm, ty, ac, mp, st, mx, lo, hi, df⟩ := e0
    dsimp only at FN ⊢
    have TB := Lib.hid (fun w => TBits_any ty w)
    have OR := fun A n c w => objR_any ⟨ix, sb, nm, ty, ac, mp, st, mx, lo, hi, df⟩ A n c (Mp.bt v) w
    have OW := fun A n c w => objW_any ⟨ix, sb, nm, ty, ac, mp, st, mx, lo, hi, df⟩ A n c (Mp.bt v) w
    unfold objV at OR OW
    dsimp only at OR OW
    generalize Ent.readS (⟨ix, sb, nm, ty, ac, mp, st, mx, lo, hi, df⟩ : Ent.En) = rr at *
    generalize Ent.writS (⟨ix, sb, nm, ty, ac, mp, st, mx, lo, hi, df⟩ : Ent.En) = rw_ at *
    generalize ((Ty.kd ty).bits : Int) = kb at *
    generalize (Mp.bt v : Int) = vb at *
    replace OR := Lib.hid OR; replace OW := Lib.hid OW; replace FN := Lib.hid FN
    cases inn
    · simp only [Bool.false_eq_true, if_false, if_true]
      cases mp
      · simp only [true_or, if_true]
        go_enter Tryz.func49, Tryz.ntmps49
        go_wp2_with fail
        refine (FN.out).mono ?_
        rintro e w1 ⟨A, n, c, rfl, o1, b1⟩
        have b2 := alloc_one w1 (.cells #[.int .i64 ix, .int .i64 sb, .string (T nm), .int .i64 ty, .int .i64 ac, .bool false, .bool st, .int .i64 mx, .int .i64 lo, .int .i64 hi, .slice A n c, .int .i64 vb] 77)
        have K := Blk.new w1 77 #[.int .i64 ix, .int .i64 sb, .string (T nm), .int .i64 ty, .int .i64 ac, .bool false, .bool st, .int .i64 mx, .int .i64 lo, .int .i64 hi, .slice A n c, .int .i64 vb]
        have T := K.twelve
        have c3 := cell_regrown T.1.2.2.2.1
        have c5 := cell_regrown T.1.2.2.2.2.2.1
        have c11 := cell_regrown T.1.2.2.2.2.2.2.2.2.2.2.2
        have d2 := below_step b1 b2 (Nat.le_refl _)
        clear b1 b2 o1
        go_wp2_with fail
        refine region_later (by kernel_rfl) ?_
        refine phase_later (by kernel_rfl) 8 (below_drew _) [0, 1, 2, 3, 4, 5, 9, 6, 10, 7] rfl (by kernel_rfl) ?_
        simp only [picks, nth]
        repeat (go_big_quiet_step (fail))
        refine wpQuiet_nil ?_
        refine phase_op 8 7 rfl (by kernel_rfl) (by decide) ?_
        simp only [nth]
        go_wp2_with fail
        have D3 := Lib.hid (below_step d2 (below_drew _) (Nat.le_refl _))
        refine behind_later (below_drew _) ?_
        refine phase_later (by kernel_rfl) 3 (Below.refl _ _) [11, 12, 13, 14] rfl (by kernel_rfl) ?_
        simp only [picks, nth]
        repeat (go_big_quiet_step (fail))
        refine wpQuiet_nil ?_
        refine phase_op 15 2 rfl (by kernel_rfl) (by decide) ?_
        simp only [nth]
        go_wp2_with fail
        have D4 := D3
        refine behind_later (Below.refl _ _) ?_
        refine phase_later (by kernel_rfl) 0 (Below.refl _ _) [16, 17] rfl (by kernel_rfl) ?_
        simp only [picks, nth]
        repeat (go_big_quiet_step (fail))
        refine wpQuiet_nil ?_
        refine phase_end (by kernel_rfl) ?_
        go_wp2_with fail
        go_ret
        exact ⟨rfl, D4.out⟩
      · simp only [Bool.true_eq_false, false_or]
        by_cases hk : kb = vb
        · subst hk
          simp only [ne_eq, not_true_eq_false, false_or]
          by_cases hr : rr = 0
          · subst hr
            simp only [not_true_eq_false, if_false]
            go_enter Tryz.func49, Tryz.ntmps49
            go_wp2_with fail
            refine (FN.out).mono ?_
            rintro e w1 ⟨A, n, c, rfl, o1, b1⟩
            have b2 := alloc_one w1 (.cells #[.int .i64 ix, .int .i64 sb, .string (T nm), .int .i64 ty, .int .i64 ac, .bool true, .bool st, .int .i64 mx, .int .i64 lo, .int .i64 hi, .slice A n c, .int .i64 kb] 77)
            have K := Blk.new w1 77 #[.int .i64 ix, .int .i64 sb, .string (T nm), .int .i64 ty, .int .i64 ac, .bool true, .bool st, .int .i64 mx, .int .i64 lo, .int .i64 hi, .slice A n c, .int .i64 kb]
            have T := K.twelve
            have c3 := cell_regrown T.1.2.2.2.1
            have c5 := cell_regrown T.1.2.2.2.2.2.1
            have c11 := cell_regrown T.1.2.2.2.2.2.2.2.2.2.2.2
            have d2 := below_step b1 b2 (Nat.le_refl _)
            clear b1 b2 o1
            go_wp2_with fail
            refine region_later (by kernel_rfl) ?_
            refine phase_later (by kernel_rfl) 8 (below_drew _) [0, 1, 2, 3, 4, 5, 9, 6, 10, 7] rfl (by kernel_rfl) ?_
            simp only [picks, nth]
            repeat (go_big_quiet_step (fail))
            refine wpQuiet_nil ?_
            refine phase_op 8 7 rfl (by kernel_rfl) (by decide) ?_
            simp only [nth]
            go_wp2_with fail
            refine (TB.out _).mono ?_
            rintro e w2 ⟨rfl, b3⟩
            have d3 := below_step (below_drew _) b3 (Nat.le_refl _)
            have D3 := Lib.hid (below_step d2 d3 (Nat.le_refl _))
            go_wp2_with fail
            refine behind_later d3 ?_
            refine phase_later (by kernel_rfl) 3 (Below.refl _ _) [11, 12, 13, 14] rfl (by kernel_rfl) ?_
            simp only [picks, nth]
            repeat (go_big_quiet_step (fail))
            refine wpQuiet_nil ?_
            refine phase_op 15 2 rfl (by kernel_rfl) (by decide) ?_
            simp only [nth]
            go_wp2_with fail
            refine (OR.out _ _ _ _).mono ?_
            rintro e w3 ⟨rfl, b4⟩
            have D4 := Lib.hid (below_step D3.out b4 (Nat.le_refl _))
            go_wp2_with fail
            refine behind_later b4 ?_
            refine phase_later (by kernel_rfl) 0 (Below.refl _ _) [16, 17] rfl (by kernel_rfl) ?_
            simp only [picks, nth]
            repeat (go_big_quiet_step (fail))
            refine wpQuiet_nil ?_
            refine phase_end (by kernel_rfl) ?_
            go_wp2_with fail
            go_ret
            exact ⟨rfl, D4.out⟩
          · simp only [hr, not_false_eq_true, if_true]
            have hr2 : (rr == 0) = false := by simpa using hr
            replace hr := Lib.hid hr
            go_enter Tryz.func49, Tryz.ntmps49
            go_wp2_with fail
            refine (FN.out).mono ?_
            rintro e w1 ⟨A, n, c, rfl, o1, b1⟩
            have b2 := alloc_one w1 (.cells #[.int .i64 ix, .int .i64 sb, .string (T nm), .int .i64 ty, .int .i64 ac, .bool true, .bool st, .int .i64 mx, .int .i64 lo, .int .i64 hi, .slice A n c, .int .i64 kb] 77)
            have K := Blk.new w1 77 #[.int .i64 ix, .int .i64 sb, .string (T nm), .int .i64 ty, .int .i64 ac, .bool true, .bool st, .int .i64 mx, .int .i64 lo, .int .i64 hi, .slice A n c, .int .i64 kb]
            have T := K.twelve
            have c3 := cell_regrown T.1.2.2.2.1
            have c5 := cell_regrown T.1.2.2.2.2.2.1
            have c11 := cell_regrown T.1.2.2.2.2.2.2.2.2.2.2.2
            have d2 := below_step b1 b2 (Nat.le_refl _)
            clear b1 b2 o1
            go_wp2_with fail
            refine region_later (by kernel_rfl) ?_
            refine phase_later (by kernel_rfl) 8 (below_drew _) [0, 1, 2, 3, 4, 5, 9, 6, 10, 7] rfl (by kernel_rfl) ?_
            simp only [picks, nth]
            repeat (go_big_quiet_step (fail))
            refine wpQuiet_nil ?_
            refine phase_op 8 7 rfl (by kernel_rfl) (by decide) ?_
            simp only [nth]
            go_wp2_with fail
            refine (TB.out _).mono ?_
            rintro e w2 ⟨rfl, b3⟩
            have d3 := below_step (below_drew _) b3 (Nat.le_refl _)
            have D3 := Lib.hid (below_step d2 d3 (Nat.le_refl _))
            go_wp2_with fail
            refine behind_later d3 ?_
            refine phase_later (by kernel_rfl) 3 (Below.refl _ _) [11, 12, 13, 14] rfl (by kernel_rfl) ?_
            simp only [picks, nth]
            repeat (go_big_quiet_step (fail))
            refine wpQuiet_nil ?_
            refine phase_op 15 2 rfl (by kernel_rfl) (by decide) ?_
            simp only [nth]
            go_wp2_with fail
            refine (OR.out _ _ _ _).mono ?_
            rintro e w3 ⟨rfl, b4⟩
            have D4 := Lib.hid (below_step D3.out b4 (Nat.le_refl _))
            go_wp2_with fail
            refine behind_later b4 ?_
            refine phase_later (by kernel_rfl) 0 (Below.refl _ _) [16, 17] rfl (by kernel_rfl) ?_
            simp only [picks, nth]
            repeat (go_big_quiet_step (fail))
            refine wpQuiet_nil ?_
            refine phase_end (by kernel_rfl) ?_
            go_wp2_with fail
            go_ret
            exact ⟨rfl, D4.out⟩
        · simp only [ne_eq, hk, not_false_eq_true, true_or, if_true]
          have hk2 : (kb == vb) = false := by simpa using hk
          have hk3 : (kb != vb) = true := by simpa using hk
          replace hk := Lib.hid hk
          go_enter Tryz.func49, Tryz.ntmps49
          go_wp2_with fail
          refine (FN.out).mono ?_
          rintro e w1 ⟨A, n, c, rfl, o1, b1⟩
          have b2 := alloc_one w1 (.cells #[.int .i64 ix, .int .i64 sb, .string (T nm), .int .i64 ty, .int .i64 ac, .bool true, .bool st, .int .i64 mx, .int .i64 lo, .int .i64 hi, .slice A n c, .int .i64 vb] 77)
          have K := Blk.new w1 77 #[.int .i64 ix, .int .i64 sb, .string (T nm), .int .i64 ty, .int .i64 ac, .bool true, .bool st, .int .i64 mx, .int .i64 lo, .int .i64 hi, .slice A n c, .int .i64 vb]
          have T := K.twelve
          have c3 := cell_regrown T.1.2.2.2.1
          have c5 := cell_regrown T.1.2.2.2.2.2.1
          have c11 := cell_regrown T.1.2.2.2.2.2.2.2.2.2.2.2
          have d2 := below_step b1 b2 (Nat.le_refl _)
          clear b1 b2 o1
          go_wp2_with fail
          refine region_later (by kernel_rfl) ?_
          refine phase_later (by kernel_rfl) 8 (below_drew _) [0, 1, 2, 3, 4, 5, 9, 6, 10, 7] rfl (by kernel_rfl) ?_
          simp only [picks, nth]
          repeat (go_big_quiet_step (fail))
          refine wpQuiet_nil ?_
          refine phase_op 8 7 rfl (by kernel_rfl) (by decide) ?_
          simp only [nth]
          go_wp2_with fail
          refine (TB.out _).mono ?_
          rintro e w2 ⟨rfl, b3⟩
          have d3 := below_step (below_drew _) b3 (Nat.le_refl _)
          have D3 := Lib.hid (below_step d2 d3 (Nat.le_refl _))
          go_wp2_with fail
          refine behind_later d3 ?_
          refine phase_later (by kernel_rfl) 3 (Below.refl _ _) [11, 12, 13, 14] rfl (by kernel_rfl) ?_
          simp only [picks, nth]
          repeat (go_big_quiet_step (fail))
          refine wpQuiet_nil ?_
          refine phase_op 15 2 rfl (by kernel_rfl) (by decide) ?_
          simp only [nth]
          go_wp2_with fail
          have D4 := D3
          refine behind_later (Below.refl _ _) ?_
          refine phase_later (by kernel_rfl) 0 (Below.refl _ _) [16, 17] rfl (by kernel_rfl) ?_
          simp only [picks, nth]
          repeat (go_big_quiet_step (fail))
          refine wpQuiet_nil ?_
          refine phase_end (by kernel_rfl) ?_
          go_wp2_with fail
          go_ret
          exact ⟨rfl, D4.out⟩
    · simp only [Bool.false_eq_true, if_false, if_true]
      cases mp
      · simp only [true_or, if_true]
        go_enter Tryz.func49, Tryz.ntmps49
        go_wp2_with fail
        refine (FN.out).mono ?_
        rintro e w1 ⟨A, n, c, rfl, o1, b1⟩
        have b2 := alloc_one w1 (.cells #[.int .i64 ix, .int .i64 sb, .string (T nm), .int .i64 ty, .int .i64 ac, .bool false, .bool st, .int .i64 mx, .int .i64 lo, .int .i64 hi, .slice A n c, .int .i64 vb] 77)
        have K := Blk.new w1 77 #[.int .i64 ix, .int .i64 sb, .string (T nm), .int .i64 ty, .int .i64 ac, .bool false, .bool st, .int .i64 mx, .int .i64 lo, .int .i64 hi, .slice A n c, .int .i64 vb]
        have T := K.twelve
        have c3 := cell_regrown T.1.2.2.2.1
        have c5 := cell_regrown T.1.2.2.2.2.2.1
        have c11 := cell_regrown T.1.2.2.2.2.2.2.2.2.2.2.2
        have d2 := below_step b1 b2 (Nat.le_refl _)
        clear b1 b2 o1
        go_wp2_with fail
        refine region_later (by kernel_rfl) ?_
        refine phase_later (by kernel_rfl) 8 (below_drew _) [0, 1, 2, 3, 4, 5, 9, 6, 10, 7] rfl (by kernel_rfl) ?_
        simp only [picks, nth]
        repeat (go_big_quiet_step (fail))
        refine wpQuiet_nil ?_
        refine phase_op 8 7 rfl (by kernel_rfl) (by decide) ?_
        simp only [nth]
        go_wp2_with fail
        have D3 := Lib.hid (below_step d2 (below_drew _) (Nat.le_refl _))
        refine behind_later (below_drew _) ?_
        refine phase_later (by kernel_rfl) 3 (Below.refl _ _) [11, 12, 13, 14] rfl (by kernel_rfl) ?_
        simp only [picks, nth]
        repeat (go_big_quiet_step (fail))
        refine wpQuiet_nil ?_
        refine phase_op 15 2 rfl (by kernel_rfl) (by decide) ?_
        simp only [nth]
        go_wp2_with fail
        have D4 := D3
        refine behind_later (Below.refl _ _) ?_
        refine phase_later (by kernel_rfl) 0 (Below.refl _ _) [16, 17] rfl (by kernel_rfl) ?_
        simp only [picks, nth]
        repeat (go_big_quiet_step (fail))
        refine wpQuiet_nil ?_
        refine phase_end (by kernel_rfl) ?_
        go_wp2_with fail
        go_ret
        exact ⟨rfl, D4.out⟩
      · simp only [Bool.true_eq_false, false_or]
        by_cases hk : kb = vb
        · subst hk
          simp only [ne_eq, not_true_eq_false, false_or]
          by_cases hr : rw_ = 0
          · subst hr
            simp only [not_true_eq_false, if_false]
            go_enter Tryz.func49, Tryz.ntmps49
            go_wp2_with fail
            refine (FN.out).mono ?_
            rintro e w1 ⟨A, n, c, rfl, o1, b1⟩
            have b2 := alloc_one w1 (.cells #[.int .i64 ix, .int .i64 sb, .string (T nm), .int .i64 ty, .int .i64 ac, .bool true, .bool st, .int .i64 mx, .int .i64 lo, .int .i64 hi, .slice A n c, .int .i64 kb] 77)
            have K := Blk.new w1 77 #[.int .i64 ix, .int .i64 sb, .string (T nm), .int .i64 ty, .int .i64 ac, .bool true, .bool st, .int .i64 mx, .int .i64 lo, .int .i64 hi, .slice A n c, .int .i64 kb]
            have T := K.twelve
            have c3 := cell_regrown T.1.2.2.2.1
            have c5 := cell_regrown T.1.2.2.2.2.2.1
            have c11 := cell_regrown T.1.2.2.2.2.2.2.2.2.2.2.2
            have d2 := below_step b1 b2 (Nat.le_refl _)
            clear b1 b2 o1
            go_wp2_with fail
            refine region_later (by kernel_rfl) ?_
            refine phase_later (by kernel_rfl) 8 (below_drew _) [0, 1, 2, 3, 4, 5, 9, 6, 10, 7] rfl (by kernel_rfl) ?_
            simp only [picks, nth]
            repeat (go_big_quiet_step (fail))
            refine wpQuiet_nil ?_
            refine phase_op 8 7 rfl (by kernel_rfl) (by decide) ?_
            simp only [nth]
            go_wp2_with fail
            refine (TB.out _).mono ?_
            rintro e w2 ⟨rfl, b3⟩
            have d3 := below_step (below_drew _) b3 (Nat.le_refl _)
            have D3 := Lib.hid (below_step d2 d3 (Nat.le_refl _))
            go_wp2_with fail
            refine behind_later d3 ?_
            refine phase_later (by kernel_rfl) 3 (Below.refl _ _) [11, 12, 13, 14] rfl (by kernel_rfl) ?_
            simp only [picks, nth]
            repeat (go_big_quiet_step (fail))
            refine wpQuiet_nil ?_
            refine phase_op 15 2 rfl (by kernel_rfl) (by decide) ?_
            simp only [nth]
            go_wp2_with fail
            refine (OW.out _ _ _ _).mono ?_
            rintro e w3 ⟨rfl, b4⟩
            have D4 := Lib.hid (below_step D3.out b4 (Nat.le_refl _))
            go_wp2_with fail
            refine behind_later b4 ?_
            refine phase_later (by kernel_rfl) 0 (Below.refl _ _) [16, 17] rfl (by kernel_rfl) ?_
            simp only [picks, nth]
            repeat (go_big_quiet_step (fail))
            refine wpQuiet_nil ?_
            refine phase_end (by kernel_rfl) ?_
            go_wp2_with fail
            go_ret
            exact ⟨rfl, D4.out⟩
          · simp only [hr, not_false_eq_true, if_true]
            have hr2 : (rw_ == 0) = false := by simpa using hr
            replace hr := Lib.hid hr
            go_enter Tryz.func49, Tryz.ntmps49
            go_wp2_with fail
            refine (FN.out).mono ?_
            rintro e w1 ⟨A, n, c, rfl, o1, b1⟩
            have b2 := alloc_one w1 (.cells #[.int .i64 ix, .int .i64 sb, .string (T nm), .int .i64 ty, .int .i64 ac, .bool true, .bool st, .int .i64 mx, .int .i64 lo, .int .i64 hi, .slice A n c, .int .i64 kb] 77)
            have K := Blk.new w1 77 #[.int .i64 ix, .int .i64 sb, .string (T nm), .int .i64 ty, .int .i64 ac, .bool true, .bool st, .int .i64 mx, .int .i64 lo, .int .i64 hi, .slice A n c, .int .i64 kb]
            have T := K.twelve
            have c3 := cell_regrown T.1.2.2.2.1
            have c5 := cell_regrown T.1.2.2.2.2.2.1
            have c11 := cell_regrown T.1.2.2.2.2.2.2.2.2.2.2.2
            have d2 := below_step b1 b2 (Nat.le_refl _)
            clear b1 b2 o1
            go_wp2_with fail
            refine region_later (by kernel_rfl) ?_
            refine phase_later (by kernel_rfl) 8 (below_drew _) [0, 1, 2, 3, 4, 5, 9, 6, 10, 7] rfl (by kernel_rfl) ?_
            simp only [picks, nth]
            repeat (go_big_quiet_step (fail))
            refine wpQuiet_nil ?_
            refine phase_op 8 7 rfl (by kernel_rfl) (by decide) ?_
            simp only [nth]
            go_wp2_with fail
            refine (TB.out _).mono ?_
            rintro e w2 ⟨rfl, b3⟩
            have d3 := below_step (below_drew _) b3 (Nat.le_refl _)
            have D3 := Lib.hid (below_step d2 d3 (Nat.le_refl _))
            go_wp2_with fail
            refine behind_later d3 ?_
            refine phase_later (by kernel_rfl) 3 (Below.refl _ _) [11, 12, 13, 14] rfl (by kernel_rfl) ?_
            simp only [picks, nth]
            repeat (go_big_quiet_step (fail))
            refine wpQuiet_nil ?_
            refine phase_op 15 2 rfl (by kernel_rfl) (by decide) ?_
            simp only [nth]
            go_wp2_with fail
            refine (OW.out _ _ _ _).mono ?_
            rintro e w3 ⟨rfl, b4⟩
            have D4 := Lib.hid (below_step D3.out b4 (Nat.le_refl _))
            go_wp2_with fail
            refine behind_later b4 ?_
            refine phase_later (by kernel_rfl) 0 (Below.refl _ _) [16, 17] rfl (by kernel_rfl) ?_
            simp only [picks, nth]
            repeat (go_big_quiet_step (fail))
            refine wpQuiet_nil ?_
            refine phase_end (by kernel_rfl) ?_
            go_wp2_with fail
            go_ret
            exact ⟨rfl, D4.out⟩
        · simp only [ne_eq, hk, not_false_eq_true, true_or, if_true]
          have hk2 : (kb == vb) = false := by simpa using hk
          have hk3 : (kb != vb) = true := by simpa using hk
          replace hk := Lib.hid hk
          go_enter Tryz.func49, Tryz.ntmps49
          go_wp2_with fail
          refine (FN.out).mono ?_
          rintro e w1 ⟨A, n, c, rfl, o1, b1⟩
          have b2 := alloc_one w1 (.cells #[.int .i64 ix, .int .i64 sb, .string (T nm), .int .i64 ty, .int .i64 ac, .bool true, .bool st, .int .i64 mx, .int .i64 lo, .int .i64 hi, .slice A n c, .int .i64 vb] 77)
          have K := Blk.new w1 77 #[.int .i64 ix, .int .i64 sb, .string (T nm), .int .i64 ty, .int .i64 ac, .bool true, .bool st, .int .i64 mx, .int .i64 lo, .int .i64 hi, .slice A n c, .int .i64 vb]
          have T := K.twelve
          have c3 := cell_regrown T.1.2.2.2.1
          have c5 := cell_regrown T.1.2.2.2.2.2.1
          have c11 := cell_regrown T.1.2.2.2.2.2.2.2.2.2.2.2
          have d2 := below_step b1 b2 (Nat.le_refl _)
          clear b1 b2 o1
          go_wp2_with fail
          refine region_later (by kernel_rfl) ?_
          refine phase_later (by kernel_rfl) 8 (below_drew _) [0, 1, 2, 3, 4, 5, 9, 6, 10, 7] rfl (by kernel_rfl) ?_
          simp only [picks, nth]
          repeat (go_big_quiet_step (fail))
          refine wpQuiet_nil ?_
          refine phase_op 8 7 rfl (by kernel_rfl) (by decide) ?_
          simp only [nth]
          go_wp2_with fail
          refine (TB.out _).mono ?_
          rintro e w2 ⟨rfl, b3⟩
          have d3 := below_step (below_drew _) b3 (Nat.le_refl _)
          have D3 := Lib.hid (below_step d2 d3 (Nat.le_refl _))
          go_wp2_with fail
          refine behind_later d3 ?_
          refine phase_later (by kernel_rfl) 3 (Below.refl _ _) [11, 12, 13, 14] rfl (by kernel_rfl) ?_
          simp only [picks, nth]
          repeat (go_big_quiet_step (fail))
          refine wpQuiet_nil ?_
          refine phase_op 15 2 rfl (by kernel_rfl) (by decide) ?_
          simp only [nth]
          go_wp2_with fail
          have D4 := D3
          refine behind_later (Below.refl _ _) ?_
          refine phase_later (by kernel_rfl) 0 (Below.refl _ _) [16, 17] rfl (by kernel_rfl) ?_
          simp only [picks, nth]
          repeat (go_big_quiet_step (fail))
          refine wpQuiet_nil ?_
          refine phase_end (by kernel_rfl) ?_
          go_wp2_with fail
          go_ret
          exact ⟨rfl, D4.out⟩
end Go.Proofs.YtoplpmfdgaabfaaGreat
/-
  Walks: Check of layer 30.
  Conditions: none.
-/
namespace Go.Proofs.YtoplpmfdgaabfaaGreat
set_option linter.unusedVariables false
set_option linter.unusedSimpArgs false
open Go.RowKit
theorem checkF_step {l : List Ent.En} {inn : Bool} {all : List Nat} {n k : Nat} (hk : k < n) : Mp.checkF l inn all (n - k) k = if Mp.oneS l inn (all.getD k 0) ≠ 0 then Mp.oneS l inn (all.getD k 0) else if 64 < Mp.sizeS (all.take (k + 1)) then 100925506 else Mp.checkF l inn all (n - (k + 1)) (k + 1) := by
  obtain ⟨m, hm⟩ : ∃ m, n - k = m + 1 := ⟨n - k - 1, by omega⟩
  have h2 : n - (k + 1) = m := by omega
  rw [hm, h2]
  rfl
set_option maxRecDepth 100000 in
set_option maxHeartbeats 4000000 in
theorem MCheck_any {F : Nat → Prop} {w : World} {g gv lc vc : Nat} {la : Addr} {vA : Option Addr} {xs vs : List Value} {D : Dc.Dic} {A : Option Addr} {n c B : Nat} {ws : List Nat} (inn : Bool) (h : DRt 89 w F g gv (some la) lc vA vc xs vs D) (hd : ∀ e ∈ D.l, e.dflt.length ≤ 1000000) (hw : RW w B A n c ws) (hwl : ∀ x ∈ ws, x < 4294967296) (hB : B ≤ w.heap.size) : Calls Tryz.prog 23 #[.pointer (some ⟨g, 0, none⟩), .slice A n c, .bool inn] w fun e w' => e = .returned (.int .u32 (Mp.checkS D.l inn ws)) ∧ Below w.heap.size w w' := by
  have hl := hw.len
  have hn9 := hw.lt
  obtain ⟨hnc, hc9⟩ : n ≤ c ∧ c ≤ 9223372036854775807 := ⟨RV.le hw, RV.cap hw⟩
  have hs : Mp.checkS D.l inn ws = if 8 < n then 100925506 else Mp.checkF D.l inn ws n 0 := by unfold Mp.checkS; rw [hl]
  rw [hs]
  by_cases h8 : 8 < n
  · simp only [h8, if_true]
    go_enter Tryz.func23, Tryz.ntmps23
    go_wp2_with fail
    go_ret
    exact ⟨rfl, Below.refl _ _⟩
  · simp only [h8, if_false]
    clear hs
    generalize hg : Mp.checkF D.l inn ws n 0 = r
    have HG := Lib.hid hg
    clear hg
    go_enter Tryz.func23, Tryz.ntmps23
    go_wp2_with fail
    go_loopw [19] (fun i wr => ∃ k : Nat, k ≤ n ∧ i = .int .i64 k ∧ Below w.heap.size w wr ∧ Mp.checkF D.l inn ws (n - k) k = r) (fun i _ => n - (intOf i).toNat)
    case atStart => exact ⟨0, by omega, rfl, Below.refl _ _, HG.out⟩
    case round =>
      obtain ⟨k, hk, rfl, hbel, hrr⟩ := hrel
      by_cases hlt : k < n
      · obtain ⟨b, o, rfl, hbB, q0⟩ := (hw.below (hbel.mono hB)).at_ hlt
        have ON := one_any (ws.getD k 0) (word_lt hwl k) inn (h.below hbel) hd
        have hwT := (hw.below (hbel.mono hB)).take (k := k + 1) (by omega)
        rw [checkF_step hlt] at hrr
        have SZ := fun (w1 : World) (hb : Below wr.heap.size wr w1) => MSize_any w1 (hwT.below (hb.mono (Nat.le_trans hB hbel.size))) (by omega) (fun x hx => hwl x (List.mem_of_mem_take hx))
        generalize Mp.oneS D.l inn (ws.getD k 0) = oo at *
        generalize ws.getD k 0 = x at *
        generalize Mp.sizeS (ws.take (k + 1)) = sz at *
        replace SZ := Lib.hid SZ; replace ON := Lib.hid ON
        by_cases ho : oo = 0
        · subst ho
          simp only [ne_eq, not_true_eq_false, if_false] at hrr
          by_cases h64 : 64 < sz
          · simp only [h64, if_true] at hrr
            subst hrr
            go_wp2_with fail
            refine (ON.out).mono ?_
            rintro e w1 ⟨rfl, b1⟩
            go_wp2_with fail
            refine (SZ.out _ b1).mono ?_
            rintro e w2 ⟨rfl, rfl⟩
            go_wp2_with fail
            go_ret
            exact ⟨rfl, below_step hbel b1 (Nat.le_refl _)⟩
          · simp only [h64, if_false] at hrr
            have HRR := Lib.hid hrr
            clear hrr
            go_wp2_with fail
            refine (ON.out).mono ?_
            rintro e w1 ⟨rfl, b1⟩
            go_wp2_with fail
            refine (SZ.out _ b1).mono ?_
            rintro e w2 ⟨rfl, rfl⟩
            go_wp2_with fail
            go_roundw
            case rel => exact ⟨k + 1, by omega, by go_num, below_step hbel b1 (Nat.le_refl _), HRR.out⟩
            case measure => simp [intOf] <;> omega
        · simp only [ne_eq, ho, not_false_eq_true, if_true] at hrr
          subst hrr
          have ho2 : (oo == 0) = false := by simpa using ho
          have ho3 : (oo != 0) = true := by simpa using ho
          replace ho := Lib.hid ho
          go_wp2_with fail
          refine (ON.out).mono ?_
          rintro e w1 ⟨rfl, b1⟩
          go_wp2_with fail
          go_ret
          exact ⟨rfl, below_step hbel b1 (Nat.le_refl _)⟩
      · obtain rfl : k = n := by omega
        rw [Nat.sub_self] at hrr
        have hrr2 : r = 0 := hrr.symm
        subst hrr2
        go_wp2_with fail
        go_ret
        exact ⟨rfl, hbel⟩
end Go.Proofs.YtoplpmfdgaabfaaGreat
/-
  Walks: right of layer 30.
  Conditions: none.
-/
namespace Go.Proofs.YtoplpmfdgaabfaaGreat
set_option linter.unusedVariables false
set_option linter.unusedSimpArgs false
open Go.RowKit
set_option maxRecDepth 100000 in
set_option maxHeartbeats 4000000 in
theorem MRight_any {F : Nat → Prop} {w : World} {g gv lc vc : Nat} {la : Addr} {vA : Option Addr} {xs vs : List Value} {D : Dc.Dic} {A : Option Addr} {n c B : Nat} {ws : List Nat} (inn : Bool) (h : DRt 89 w F g gv (some la) lc vA vc xs vs D) (hd : ∀ e ∈ D.l, e.dflt.length ≤ 1000000) (hw : RW w B A n c ws) (hwl : ∀ x ∈ ws, x < 4294967296) (hB : B ≤ w.heap.size) : Calls Tryz.prog 25 #[.pointer (some ⟨g, 0, none⟩), .slice A n c, .bool inn] w fun e w' => e = .returned (.int .i64 (if Mp.checkS D.l inn ws ≠ 0 then 4 else 0)) ∧ Below w.heap.size w w' := by
  have CK := MCheck_any inn h hd hw hwl hB
  generalize Mp.checkS D.l inn ws = r at *
  replace CK := Lib.hid CK
  by_cases hr : r = 0
  · subst hr
    simp only [ne_eq, not_true_eq_false, if_false]
    go_enter Tryz.func25, Tryz.ntmps25
    go_wp2_with fail
    refine (CK.out).mono ?_
    rintro e w1 ⟨rfl, b1⟩
    go_wp2_with fail
    go_ret
    exact ⟨rfl, b1⟩
  · simp only [ne_eq, hr, not_false_eq_true, if_true]
    have hr2 : (r == 0) = false := by simpa using hr
    have hr3 : (r != 0) = true := by simpa using hr
    replace hr := Lib.hid hr
    go_enter Tryz.func25, Tryz.ntmps25
    go_wp2_with fail
    refine (CK.out).mono ?_
    rintro e w1 ⟨rfl, b1⟩
    go_wp2_with fail
    go_ret
    exact ⟨rfl, b1⟩
end Go.Proofs.YtoplpmfdgaabfaaGreat
/-
  Layer 29 as plain functions: bits at a place of bytes.
  Conditions: none.
-/
namespace Go.Proofs.YtoplpmfdgaabfaaGreat.Bt
set_option linter.unusedVariables false
set_option linter.unusedSimpArgs false
def bytesS (n : Int) : Int := if n < 1 then 0 else (n - 1) / 8 + 1
/-- What is wrong of n bits at a place of len bytes. -/
def roomS (len : Nat) (at_ n : Int) : Int := if n < 1 ∨ 64 < n ∨ at_ < 0 then 1 else if 8 * (len : Int) < at_ ∨ 8 * (len : Int) - at_ < n then 2 else 0
def bt (l : List UInt8) (i : Nat) : Nat := (l.getD (i / 8) 0).toNat / 2 ^ (i % 8) % 2
theorem bt_lt (l : List UInt8) (i : Nat) : bt l i < 2 := Nat.mod_lt _ (by decide)
/-- The number of n bits, from the lowest one up. -/
def lowF (l : List UInt8) (p : Nat) : Nat → Nat
  | 0 => 0
  | n + 1 => lowF l p n + bt l (p + n) * 2 ^ n
theorem lowF_lt (l : List UInt8) (p : Nat) : ∀ n, lowF l p n < 2 ^ n
  | 0 => by simp [lowF]
  | n + 1 => by
    have h1 := lowF_lt l p n
    have h2 := bt_lt l (p + n)
    have h3 : bt l (p + n) * 2 ^ n ≤ 1 * 2 ^ n := Nat.mul_le_mul_right _ (by omega)
    rw [lowF, Nat.pow_succ]
    omega
/-- The same, from the highest one down: k bits of them. -/
def upF (l : List UInt8) (p n : Nat) : Nat → Nat
  | 0 => 0
  | k + 1 => 2 * upF l p n k + bt l (p + (n - 1 - k))
theorem upF_lowF (l : List UInt8) (p n : Nat) : ∀ k, k ≤ n → lowF l p n = lowF l p (n - k) + 2 ^ (n - k) * upF l p n k
  | 0, _ => by simp [upF]
  | k + 1, h => by
    rw [upF_lowF l p n k (by omega), upF]
    have e : n - k = (n - (k + 1)) + 1 := by omega
    rw [e, lowF, Nat.pow_succ, show n - 1 - k = n - (k + 1) by omega, Nat.mul_add]
    rw [show 2 ^ (n - (k + 1)) * (2 * upF l p n k) = 2 ^ (n - (k + 1)) * 2 * upF l p n k by rw [Nat.mul_assoc], Nat.mul_comm (bt l (p + (n - (k + 1)))) _]
    omega
theorem upF_all (l : List UInt8) (p n : Nat) : upF l p n n = lowF l p n := by
  have := upF_lowF l p n n (Nat.le_refl _)
  simp [lowF] at this
  exact this.symm
theorem upF_lt (l : List UInt8) (p n : Nat) : ∀ k, upF l p n k < 2 ^ k
  | 0 => by simp [upF]
  | k + 1 => by
    have h1 := upF_lt l p n k
    have h2 := bt_lt l (p + (n - 1 - k))
    rw [upF, Nat.pow_succ]
    omega
def getS (l : List UInt8) (at_ n : Int) : Nat × Int := if roomS l.length at_ n = 0 then (lowF l at_.toNat n.toNat, 0) else (0, roomS l.length at_ n)
/-- A byte with one bit set, or not. -/
def sb (c : UInt8) (j : Nat) (x : Bool) : UInt8 := UInt8.ofNat (if x then c.toNat ||| 2 ^ j else c.toNat &&& (255 - 2 ^ j))
def setB (l : List UInt8) (i : Nat) (x : Bool) : List UInt8 := l.set (i / 8) (sb (l.getD (i / 8) 0) (i % 8) x)
/-- The n lowest bits of v laid at p. -/
def putF (l : List UInt8) (p v : Nat) : Nat → List UInt8
  | 0 => l
  | n + 1 => setB (putF l p v n) (p + n) (v.testBit n)
theorem putF_length (l : List UInt8) (p v : Nat) : ∀ n, (putF l p v n).length = l.length
  | 0 => rfl
  | n + 1 => by rw [putF, setB, List.length_set, putF_length]
def wideS (v : Nat) (n : Int) : Bool := decide (n < 64) && v / 2 ^ n.toNat != 0
def putS (l : List UInt8) (at_ n : Int) (v : Nat) : List UInt8 × Int :=
  if roomS l.length at_ n = 1 then ([], 1) else if wideS v n = true then ([], 9) else if roomS l.length at_ n = 0 then (putF l at_.toNat v n.toNat, 0) else ([], roomS l.length at_ n)
end Go.Proofs.YtoplpmfdgaabfaaGreat.Bt
/-
  Layer 29 as plain functions: fields, packed and unpacked.
  Conditions: none.
-/
namespace Go.Proofs.YtoplpmfdgaabfaaGreat.Bt
set_option linter.unusedVariables false
set_option linter.unusedSimpArgs false
structure Fld where
  bits : Int
  data : List UInt8
def Fld.zero : Fld := ⟨0, []⟩
theorem bytesS_pos {m : Int} (h1 : 1 ≤ m) (h2 : m ≤ 64) : 1 ≤ bytesS m ∧ bytesS m ≤ 8 ∧ m ≤ 8 * bytesS m ∧ 8 * bytesS m < m + 8 := by
  unfold bytesS
  rw [if_neg (by omega)]
  omega
/-- Is it a field? -/
def fits (f : Fld) : Bool := decide (1 ≤ f.bits ∧ f.bits ≤ 64 ∧ (f.data.length : Int) = bytesS f.bits)
def valS (f : Fld) : Nat × Bool := if fits f = true then (Oct.le f.data, !wideS (Oct.le f.data) f.bits) else (0, false)
def okF (f : Fld) : Bool := (valS f).2
theorem okF_fits {f : Fld} (h : okF f = true) : 1 ≤ f.bits ∧ f.bits ≤ 64 ∧ (f.data.length : Int) = bytesS f.bits ∧ wideS (Oct.le f.data) f.bits = false := by
  unfold okF valS at h
  split at h
  · rename_i h1
    unfold fits at h1
    have h2 := of_decide_eq_true h1
    exact ⟨h2.1, h2.2.1, h2.2.2, by simpa using h⟩
  · cases h
theorem okF_val {f : Fld} (h : okF f = true) : valS f = (Oct.le f.data, true) := by
  have h1 := okF_fits h
  unfold valS
  rw [if_pos (by unfold fits; exact decide_eq_true ⟨h1.1, h1.2.1, h1.2.2.1⟩), h1.2.2.2]
  rfl
/-- The bits of the first k. -/
def sumK (ws : List Int) : Nat → Int
  | 0 => 0
  | k + 1 => sumK ws k + ws.getD k 0
def okW (w : Int) : Bool := decide (1 ≤ w ∧ w ≤ 64)
theorem okW_iff {w : Int} : okW w = true ↔ 1 ≤ w ∧ w ≤ 64 := by unfold okW; exact decide_eq_true_iff
theorem sumK_mono {ws : List Int} (h : ∀ i, i < ws.length → okW (ws.getD i 0) = true) : ∀ k, k ≤ ws.length → (k : Int) ≤ sumK ws k ∧ sumK ws k ≤ 64 * k
  | 0, _ => by simp [sumK]
  | k + 1, hk => by
    have h1 := sumK_mono h k (by omega)
    have h2 := okW_iff.1 (h k (by omega))
    rw [sumK]
    omega
theorem sumK_le {ws : List Int} (h : ∀ i, i < ws.length → okW (ws.getD i 0) = true) : ∀ k m, k + m ≤ ws.length → sumK ws k + m ≤ sumK ws (k + m)
  | k, 0, _ => by simp
  | k, m + 1, hk => by
    have h1 := sumK_le h k m (by omega)
    have h2 := okW_iff.1 (h (k + m) (by omega))
    rw [← Nat.add_assoc, sumK]
    omega
/-- All of them are right. -/
def okAll (ok : List Bool) : Bool := ok.all id
/-- What is wrong of bits in all: ErrArg 1, ErrBig 3. -/
def totS (ws : List Int) (ok : List Bool) : Int × Int := if ok.all id = true then (if 64 < sumK ws ws.length then (0, 3) else (sumK ws ws.length, 0)) else (0, 1)
def bitsOf (l : List Fld) : List Int := l.map (·.bits)
/-- The first k fields, laid down. -/
def packK (l : List Fld) (b : List UInt8) : Nat → List UInt8
  | 0 => b
  | k + 1 => putF (packK l b k) (sumK (bitsOf l) k).toNat (Oct.le (l.getD k Fld.zero).data) (l.getD k Fld.zero).bits.toNat
theorem packK_length (l : List Fld) (b : List UInt8) : ∀ k, (packK l b k).length = b.length
  | 0 => rfl
  | k + 1 => by rw [packK, putF_length, packK_length]
def packS (l : List Fld) : List UInt8 × Int :=
  if (totS (bitsOf l) (l.map okF)).2 = 0 then (packK l (List.replicate (bytesS (totS (bitsOf l) (l.map okF)).1).toNat 0) l.length, 0) else ([], (totS (bitsOf l) (l.map okF)).2)
/-- The field of a width at a place. -/
def fieldS (b : List UInt8) (p : Nat) (w : Int) : Fld := ⟨w, Oct.lb (bytesS w).toNat (lowF b p w.toNat)⟩
def unpK (b : List UInt8) (ws : List Int) : Nat → List Fld
  | 0 => []
  | k + 1 => unpK b ws k ++ [fieldS b (sumK ws k).toNat (ws.getD k 0)]
theorem unpK_length (b : List UInt8) (ws : List Int) : ∀ k, (unpK b ws k).length = k
  | 0 => rfl
  | k + 1 => by rw [unpK, List.length_append, unpK_length]; rfl
def unpackS (b : List UInt8) (ws : List Int) : List Fld × Int :=
  if (totS ws (ws.map okW)).2 = 0 then (if 8 * (b.length : Int) < (totS ws (ws.map okW)).1 then ([], 2) else (unpK b ws ws.length, 0)) else ([], (totS ws (ws.map okW)).2)
theorem all_get {ok : List Bool} (h : ok.all id = true) {i : Nat} (hi : i < ok.length) : ok.getD i false = true := by
  rw [List.all_eq_true] at h
  have := h ok[i] (List.getElem_mem hi)
  simpa [List.getD, hi] using this
theorem all_of {ok : List Bool} (h : ∀ i, i < ok.length → ok.getD i false = true) : ok.all id = true := by
  rw [List.all_eq_true]
  intro x hx
  obtain ⟨i, hi, rfl⟩ := List.getElem_of_mem hx
  have := h i hi
  simpa [List.getD, hi] using this
theorem all_not {ok : List Bool} {i : Nat} (hi : i < ok.length) (h : ok.getD i false = false) : ok.all id = false := by
  cases hb : ok.all id with
  | false => rfl
  | true => rw [all_get hb hi] at h; cases h
theorem bitsOf_getD (l : List Fld) (i : Nat) : (bitsOf l).getD i 0 = (l.getD i Fld.zero).bits := by
  unfold bitsOf
  simp only [List.getD, List.getElem?_map]
  cases l[i]? <;> rfl
theorem okF_getD (l : List Fld) (i : Nat) : (l.map okF).getD i false = okF (l.getD i Fld.zero) := by
  simp only [List.getD, List.getElem?_map]
  cases l[i]? <;> rfl
theorem okW_getD (ws : List Int) (i : Nat) : (ws.map okW).getD i false = okW (ws.getD i 0) := by
  simp only [List.getD, List.getElem?_map]
  cases ws[i]? <;> rfl
end Go.Proofs.YtoplpmfdgaabfaaGreat.Bt
