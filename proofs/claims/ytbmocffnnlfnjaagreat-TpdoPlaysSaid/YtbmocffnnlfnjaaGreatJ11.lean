/-
  Texts joined: MapWhy, MapCheck, MapNil.
  Conditions: none.
-/
import Derived.Test.YtbmocffnnlfnjaaGreatJ04
import Derived.Test.YtbmocffnnlfnjaaGreatJ10
/-
  Walks: one of layer 30.
  Conditions: none.
-/
namespace Go.Proofs.YtbmocffnnlfnjaaGreat
set_option linter.unusedVariables false
set_option linter.unusedSimpArgs false
open Go.RowKit
set_option maxRecDepth 100000 in
set_option maxHeartbeats 4000000 in
theorem one_any {F : Nat → Prop} {w : World} {g gv lc vc : Nat} {la : Addr} {vA : Option Addr} {xs vs : List Value} {D : Dc.Dic} (v : Nat) (hv : v < 4294967296) (inn : Bool) (h : DRt 66 w F g gv (some la) lc vA vc xs vs D) (hd : ∀ e ∈ D.l, e.dflt.length ≤ 1000000) : Calls Tryz.prog 66 #[.pointer (some ⟨g, 0, none⟩), .int .u32 (v : Int), .bool inn] w fun e w' => e = .returned (.int .u32 (Mp.oneS D.l inn v)) ∧ Below w.heap.size w w' := by
  have FN := find_any v hv h hd
  unfold FindP at FN
  cases hf : Dc.findS D.l (Mp.ix v) (Mp.sb v) with
  | none =>
    have ho : Mp.oneS D.l inn v = if Dc.inB D.l (Mp.ix v) = true then 101253137 else 100794368 := by unfold Mp.oneS; rw [hf]
    rw [hf] at FN
    dsimp only at FN
    rw [ho]
    clear ho hf
    cases hi : Dc.inB D.l (Mp.ix v)
    all_goals
      rw [hi] at FN
      simp only [if_true, Bool.false_eq_true, if_false] at FN
      simp only [if_true, Bool.false_eq_true, if_false]
      replace FN := Lib.hid FN
      clear hi
      go_enter Tryz.func66, Tryz.ntmps66
      go_wp2_with fail
      refine (FN.out).mono ?_
      rintro e w1 ⟨rfl, b1⟩
      go_wp2_with fail
      go_ret
      exact ⟨rfl, below_step b1 (alloc_one _ _) (Nat.le_refl _)⟩
  | some k =>
    have ho : Mp.oneS D.l inn v = if (D.l.getD k Dc.en0).map = false ∨ ((Ty.kd (D.l.getD k Dc.en0).type).bits : Int) ≠ (Mp.bt v : Int) ∨ (if inn = true then Ent.writS (D.l.getD k Dc.en0) else Ent.readS (D.l.getD k Dc.en0)) ≠ 0 then 100925505 else 0 := by unfold Mp.oneS; rw [hf]
    rw [hf] at FN
    dsimp only at FN
    rw [ho]
    clear ho hf
    generalize D.l.getD k Dc.en0 = e0 at *
    obtain ⟨ix, sb, nm, ty, ac, mp, st, mx, lo, hi, df⟩ := e0
    dsimp only at FN ⊢
    have TB := Lib.hid (fun w => TBits_any ty w)
    have OR := fun A n c w => objR_any ⟨ix, sb, nm, ty, ac, mp, st, mx, lo, hi, df⟩ A n c (Mp.bt v) w
    have OW := fun A n c w => objW_any ⟨ix, sb, nm, ty, ac, mp, st, mx, lo, hi, df⟩ A n c (Mp.bt v) w
    unfold objV at OR OW
    dsimp only at OR OW
    generalize Ent.readS (⟨ix, sb, nm, ty, ac, mp, st, mx, lo, hi, df⟩ : Ent.En) = rr at *
    generalize Ent.writS (⟨ix, sb, nm, ty, ac, mp, st, mx, lo, hi, df⟩ : Ent.En) = rw_ at *
    generalize ((Ty.kd ty).bits : Int) = kb at *
    generalize (Mp.bt v : Int) = vb at *
    replace OR := Lib.hid OR; replace OW := Lib.hid OW; replace FN := Lib.hid FN
    cases inn
    · simp only [Bool.false_eq_true, if_false, if_true]
      cases mp
      · simp only [true_or, if_true]
        go_enter Tryz.func66, Tryz.ntmps66
        go_wp2_with fail
        refine (FN.out).mono ?_
        rintro e w1 ⟨A, n, c, rfl, o1, b1⟩
        have b2 := alloc_one w1 (.cells #[.int .i64 ix, .int .i64 sb, .string (T nm), .int .i64 ty, .int .i64 ac, .bool false, .bool st, .int .i64 mx, .int .i64 lo, .int .i64 hi, .slice A n c, .int .i64 vb] 121)
        have K := Blk.new w1 121 #[.int .i64 ix, .int .i64 sb, .string (T nm), .int .i64 ty, .int .i64 ac, .bool false, .bool st, .int .i64 mx, .int .i64 lo, .int .i64 hi, .slice A n c, .int .i64 vb]
        have T := K.twelve
        have c3 := cell_regrown T.1.2.2.2.1
        have c5 := cell_regrown T.1.2.2.2.2.2.1
        have c11 := cell_regrown T.1.2.2.2.2.2.2.2.2.2.2.2
        have d2 := below_step b1 b2 (Nat.le_refl _)
        clear b1 b2 o1
        go_wp2_with fail
        refine region_later (by kernel_rfl) ?_
        refine phase_later (by kernel_rfl) 8 (below_drew _) [0, 1, 2, 3, 4, 5, 9, 6, 10, 7] rfl (by kernel_rfl) ?_
        simp only [picks, nth]
        repeat (go_big_quiet_step (fail))
        refine wpQuiet_nil ?_
        refine phase_op 8 7 rfl (by kernel_rfl) (by decide) ?_
        simp only [nth]
        go_wp2_with fail
        have D3 := Lib.hid (below_step d2 (below_drew _) (Nat.le_refl _))
        refine behind_later (below_drew _) ?_
        refine phase_later (by kernel_rfl) 3 (Below.refl _ _) [11, 12, 13, 14] rfl (by kernel_rfl) ?_
        simp only [picks, nth]
        repeat (go_big_quiet_step (fail))
        refine wpQuiet_nil ?_
        refine phase_op 15 2 rfl (by kernel_rfl) (by decide) ?_
        simp only [nth]
        go_wp2_with fail
        have D4 := D3
        refine behind_later (Below.refl _ _) ?_
        refine phase_later (by kernel_rfl) 0 (Below.refl _ _) [16, 17] rfl (by kernel_rfl) ?_
        simp only [picks, nth]
        repeat (go_big_quiet_step (fail))
        refine wpQuiet_nil ?_
        refine phase_end (by kernel_rfl) ?_
        go_wp2_with fail
        go_ret
        exact ⟨rfl, D4.out⟩
      · simp only [Bool.true_eq_false, false_or]
        by_cases hk : kb = vb
        · subst hk
          simp only [ne_eq, not_true_eq_false, false_or]
          by_cases hr : rr = 0
          · subst hr
            simp only [not_true_eq_false, if_false]
            go_enter Tryz.func66, Tryz.ntmps66
            go_wp2_with fail
            refine (FN.out).mono ?_
            rintro e w1 ⟨A, n, c, rfl, o1, b1⟩
            have b2 := alloc_one w1 (.cells #[.int .i64 ix, .int .i64 sb, .string (T nm), .int .i64 ty, .int .i64 ac, .bool true, .bool st, .int .i64 mx, .int .i64 lo, .int .i64 hi, .slice A n c, .int .i64 kb] 121)
            have K := Blk.new w1 121 #[.int .i64 ix, .int .i64 sb, .string (T nm), .int .i64 ty, .int .i64 ac, .bool true, .bool st, .int .i64 mx, .int .i64 lo, .int .i64 hi, .slice A n c, .int .i64 kb]
            have T := K.twelve
            have c3 := cell_regrown T.1.2.2.2.1
            have c5 := cell_regrown T.1.2.2.2.2.2.1
            have c11 := cell_regrown T.1.2.2.2.2.2.2.2.2.2.2.2
            have d2 := below_step b1 b2 (Nat.le_refl _)
            clear b1 b2 o1
            go_wp2_with fail
            refine region_later (by kernel_rfl) ?_
            refine phase_later (by kernel_rfl) 8 (below_drew _) [0, 1, 2, 3, 4, 5, 9, 6, 10, 7] rfl (by kernel_rfl) ?_
            simp only [picks, nth]
            repeat (go_big_quiet_step (fail))
            refine wpQuiet_nil ?_
            refine phase_op 8 7 rfl (by kernel_rfl) (by decide) ?_
            simp only [nth]
            go_wp2_with fail
            refine (TB.out _).mono ?_
            rintro e w2 ⟨rfl, b3⟩
            have d3 := below_step (below_drew _) b3 (Nat.le_refl _)
            have D3 := Lib.hid (below_step d2 d3 (Nat.le_refl _))
            go_wp2_with fail
            refine behind_later d3 ?_
            refine phase_later (by kernel_rfl) 3 (Below.refl _ _) [11, 12, 13, 14] rfl (by kernel_rfl) ?_
            simp only [picks, nth]
            repeat (go_big_quiet_step (fail))
            refine wpQuiet_nil ?_
            refine phase_op 15 2 rfl (by kernel_rfl) (by decide) ?_
            simp only [nth]
            go_wp2_with fail
            refine (OR.out _ _ _ _).mono ?_
            rintro e w3 ⟨rfl, b4⟩
            have D4 := Lib.hid (below_step D3.out b4 (Nat.le_refl _))
            go_wp2_with fail
            refine behind_later b4 ?_
            refine phase_later (by kernel_rfl) 0 (Below.refl _ _) [16, 17] rfl (by kernel_rfl) ?_
            simp only [picks, nth]
            repeat (go_big_quiet_step (fail))
            refine wpQuiet_nil ?_
            refine phase_end (by kernel_rfl) ?_
            go_wp2_with fail
            go_ret
            exact ⟨rfl, D4.out⟩
          · simp only [hr, not_false_eq_true, if_true]
            have hr2 : (rr == 0) = false := by simpa using hr
            replace hr := Lib.hid hr
            go_enter Tryz.func66, Tryz.ntmps66
            go_wp2_with fail
            refine (FN.out).mono ?_
            rintro e w1 ⟨A, n, c, rfl, o1, b1⟩
            have b2 := alloc_one w1 (.cells #[.int .i64 ix, .int .i64 sb, .string (T nm), .int .i64 ty, .int .i64 ac, .bool true, .bool st, .int .i64 mx, .int .i64 lo, .int .i64 hi, .slice A n c, .int .i64 kb] 121)
            have K := Blk.new w1 121 #[.int .i64 ix, .int .i64 sb, .string (T nm), .int .i64 ty, .int .i64 ac, .bool true, .bool st, .int .i64 mx, .int .i64 lo, .int .i64 hi, .slice A n c, .int .i64 kb]
            have T := K.twelve
            have c3 := cell_regrown T.1.2.2.2.1
            have c5 := cell_regrown T.1.2.2.2.2.2.1
            have c11 := cell_regrown T.1.2.2.2.2.2.2.2.2.2.2.2
            have d2 := below_step b1 b2 (Nat.le_refl _)
            clear b1 b2 o1
            go_wp2_with fail
            refine region_later (by kernel_rfl) ?_
            refine phase_later (by kernel_rfl) 8 (below_drew _) [0, 1, 2, 3, 4, 5, 9, 6, 10, 7] rfl (by kernel_rfl) ?_
            simp only [picks, nth]
            repeat (go_big_quiet_step (fail))
            refine wpQuiet_nil ?_
            refine phase_op 8 7 rfl (by kernel_rfl) (by decide) ?_
            simp only [nth]
            go_wp2_with fail
            refine (TB.out _).mono ?_
            rintro e w2 ⟨rfl, b3⟩
            have d3 := below_step (below_drew _) b3 (Nat.le_refl _)
            have D3 := Lib.hid (below_step d2 d3 (Nat.le_refl _))
            go_wp2_with fail
            refine behind_later d3 ?_
            refine phase_later (by kernel_rfl) 3 (Below.refl _ _) [11, 12, 13, 14] rfl (by kernel_rfl) ?_
            simp only [picks, nth]
            repeat (go_big_quiet_step (fail))
            refine wpQuiet_nil ?_
            refine phase_op 15 2 rfl (by kernel_rfl) (by decide) ?_
            simp only [nth]
            go_wp2_with fail
            refine (OR.out _ _ _ _).mono ?_
            rintro e w3 ⟨rfl, b4⟩
            have D4 := Lib.hid (below_step D3.out b4 (Nat.le_refl _))
            go_wp2_with fail
            refine behind_later b4 ?_
            refine phase_later (by kernel_rfl) 0 (Below.refl _ _) [16, 17] rfl (by kernel_rfl) ?_
            simp only [picks, nth]
            repeat (go_big_quiet_step (fail))
            refine wpQuiet_nil ?_
            refine phase_end (by kernel_rfl) ?_
            go_wp2_with fail
            go_ret
            exact ⟨rfl, D4.out⟩
        · simp only [ne_eq, hk, not_false_eq_true, true_or, if_true]
          have hk2 : (kb == vb) = false := by simpa using hk
          have hk3 : (kb != vb) = true := by simpa using hk
          replace hk := Lib.hid hk
          go_enter Tryz.func66, Tryz.ntmps66
          go_wp2_with fail
          refine (FN.out).mono ?_
          rintro e w1 ⟨A, n, c, rfl, o1, b1⟩
          have b2 := alloc_one w1 (.cells #[.int .i64 ix, .int .i64 sb, .string (T nm), .int .i64 ty, .int .i64 ac, .bool true, .bool st, .int .i64 mx, .int .i64 lo, .int .i64 hi, .slice A n c, .int .i64 vb] 121)
          have K := Blk.new w1 121 #[.int .i64 ix, .int .i64 sb, .string (T nm), .int .i64 ty, .int .i64 ac, .bool true, .bool st, .int .i64 mx, .int .i64 lo, .int .i64 hi, .slice A n c, .int .i64 vb]
          have T := K.twelve
          have c3 := cell_regrown T.1.2.2.2.1
          have c5 := cell_regrown T.1.2.2.2.2.2.1
          have c11 := cell_regrown T.1.2.2.2.2.2.2.2.2.2.2.2
          have d2 := below_step b1 b2 (Nat.le_refl _)
          clear b1 b2 o1
          go_wp2_with fail
          refine region_later (by kernel_rfl) ?_
          refine phase_later (by kernel_rfl) 8 (below_drew _) [0, 1, 2, 3, 4, 5, 9, 6, 10, 7] rfl (by kernel_rfl) ?_
          simp only [picks, nth]
          repeat (go_big_quiet_step (fail))
          refine wpQuiet_nil ?_
          refine phase_op 8 7 rfl (by kernel_rfl) (by decide) ?_
          simp only [nth]
          go_wp2_with fail
          refine (TB.out _).mono ?_
          rintro e w2 ⟨rfl, b3⟩
          have d3 := below_step (below_drew _) b3 (Nat.le_refl _)
          have D3 := Lib.hid (below_step d2 d3 (Nat.le_refl _))
          go_wp2_with fail
          refine behind_later d3 ?_
          refine phase_later (by kernel_rfl) 3 (Below.refl _ _) [11, 12, 13, 14] rfl (by kernel_rfl) ?_
          simp only [picks, nth]
          repeat (go_big_quiet_step (fail))
          refine wpQuiet_nil ?_
          refine phase_op 15 2 rfl (by kernel_rfl) (by decide) ?_
          simp only [nth]
          go_wp2_with fail
          have D4 := D3
          refine behind_later (Below.refl _ _) ?_
          refine phase_later (by kernel_rfl) 0 (Below.refl _ _) [16, 17] rfl (by kernel_rfl) ?_
          simp only [picks, nth]
          repeat (go_big_quiet_step (fail))
          refine wpQuiet_nil ?_
          refine phase_end (by kernel_rfl) ?_
          go_wp2_with fail
          go_ret
          exact ⟨rfl, D4.out⟩
    · simp only [Bool.false_eq_true, if_false, if_true]
      cases mp
      · simp only [true_or, if_true]
        go_enter Tryz.func66, Tryz.ntmps66
        go_wp2_with fail
        refine (FN.out).mono ?_
        rintro e w1 ⟨A, n, c, rfl, o1, b1⟩
        have b2 := alloc_one w1 (.cells #[.int .i64 ix, .int .i64 sb, .string (T nm), .int .i64 ty, .int .i64 ac, .bool false, .bool st, .int .i64 mx, .int .i64 lo, .int .i64 hi, .slice A n c, .int .i64 vb] 121)
        have K := Blk.new w1 121 #[.int .i64 ix, .int .i64 sb, .string (T nm), .int .i64 ty, .int .i64 ac, .bool false, .bool st, .int .i64 mx, .int .i64 lo, .int .i64 hi, .slice A n c, .int .i64 vb]
        have T := K.twelve
        have c3 := cell_regrown T.1.2.2.2.1
        have c5 := cell_regrown T.1.2.2.2.2.2.1
        have c11 := cell_regrown T.1.2.2.2.2.2.2.2.2.2.2.2
        have d2 := below_step b1 b2 (Nat.le_refl _)
        clear b1 b2 o1
        go_wp2_with fail
        refine region_later (by kernel_rfl) ?_
        refine phase_later (by kernel_rfl) 8 (below_drew _) [0, 1, 2, 3, 4, 5, 9, 6, 10, 7] rfl (by kernel_rfl) ?_
        simp only [picks, nth]
        repeat (go_big_quiet_step (fail))
        refine wpQuiet_nil ?_
        refine phase_op 8 7 rfl (by kernel_rfl) (by decide) ?_
        simp only [nth]
        go_wp2_with fail
        have D3 := Lib.hid (below_step d2 (below_drew _) (Nat.le_refl _))
        refine behind_later (below_drew _) ?_
        refine phase_later (by kernel_rfl) 3 (Below.refl _ _) [11, 12, 13, 14] rfl (by kernel_rfl) ?_
        simp only [picks, nth]
        repeat (go_big_quiet_step (fail))
        refine wpQuiet_nil ?_
        refine phase_op 15 2 rfl (by kernel_rfl) (by decide) ?_
        simp only [nth]
        go_wp2_with fail
        have D4 := D3
        refine behind_later (Below.refl _ _) ?_
        refine phase_later (by kernel_rfl) 0 (Below.refl _ _) [16, 17] rfl (by kernel_rfl) ?_
        simp only [picks, nth]
        repeat (go_big_quiet_step (fail))
        refine wpQuiet_nil ?_
        refine phase_end (by kernel_rfl) ?_
        go_wp2_with fail
        go_ret
        exact ⟨rfl, D4.out⟩
      · simp only [Bool.true_eq_false, false_or]
        by_cases hk : kb = vb
        · subst hk
          simp only [ne_eq, not_true_eq_false, false_or]
          by_cases hr : rw_ = 0
          · subst hr
            simp only [not_true_eq_false, if_false]
            go_enter Tryz.func66, Tryz.ntmps66
            go_wp2_with fail
            refine (FN.out).mono ?_
            rintro e w1 ⟨A, n, c, rfl, o1, b1⟩
            have b2 := alloc_one w1 (.cells #[.int .i64 ix, .int .i64 sb, .string (T nm), .int .i64 ty, .int .i64 ac, .bool true, .bool st, .int .i64 mx, .int .i64 lo, .int .i64 hi, .slice A n c, .int .i64 kb] 121)
            have K := Blk.new w1 121 #[.int .i64 ix, .int .i64 sb, .string (T nm), .int .i64 ty, .int .i64 ac, .bool true, .bool st, .int .i64 mx, .int .i64 lo, .int .i64 hi, .slice A n c, .int .i64 kb]
            have T := K.twelve
            have c3 := cell_regrown T.1.2.2.2.1
            have c5 := cell_regrown T.1.2.2.2.2.2.1
            have c11 := cell_regrown T.1.2.2.2.2.2.2.2.2.2.2.2
            have d2 := below_step b1 b2 (Nat.le_refl _)
            clear b1 b2 o1
            go_wp2_with fail
            refine region_later (by kernel_rfl) ?_
            refine phase_later (by kernel_rfl) 8 (below_drew _) [0, 1, 2, 3, 4, 5, 9, 6, 10, 7] rfl (by kernel_rfl) ?_
            simp only [picks, nth]
            repeat (go_big_quiet_step (fail))
            refine wpQuiet_nil ?_
            refine phase_op 8 7 rfl (by kernel_rfl) (by decide) ?_
            simp only [nth]
            go_wp2_with fail
            refine (TB.out _).mono ?_
            rintro e w2 ⟨rfl, b3⟩
            have d3 := below_step (below_drew _) b3 (Nat.le_refl _)
            have D3 := Lib.hid (below_step d2 d3 (Nat.le_refl _))
            go_wp2_with fail
            refine behind_later d3 ?_
            refine phase_later (by kernel_rfl) 3 (Below.refl _ _) [11, 12, 13, 14] rfl (by kernel_rfl) ?_
            simp only [picks, nth]
            repeat (go_big_quiet_step (fail))
            refine wpQuiet_nil ?_
            refine phase_op 15 2 rfl (by kernel_rfl) (by decide) ?_
            simp only [nth]
            go_wp2_with fail
            refine (OW.out _ _ _ _).mono ?_
            rintro e w3 ⟨rfl, b4⟩
            have D4 := Lib.hid (below_step D3.out b4 (Nat.le_refl _))
            go_wp2_with fail
            refine behind_later b4 ?_
            refine phase_later (by kernel_rfl) 0 (Below.refl _ _) [16, 17] rfl (by kernel_rfl) ?_
            simp only [picks, nth]
            repeat (go_big_quiet_step (fail))
            refine wpQuiet_nil ?_
            refine phase_end (by kernel_rfl) ?_
            go_wp2_with fail
            go_ret
            exact ⟨rfl, D4.out⟩
          · simp only [hr, not_false_eq_true, if_true]
            have hr2 : (rw_ == 0) = false := by simpa using hr
            replace hr := Lib.hid hr
            go_enter Tryz.func66, Tryz.ntmps66
            go_wp2_with fail
            refine (FN.out).mono ?_
            rintro e w1 ⟨A, n, c, rfl, o1, b1⟩
            have b2 := alloc_one w1 (.cells #[.int .i64 ix, .int .i64 sb, .string (T nm), .int .i64 ty, .int .i64 ac, .bool true, .bool st, .int .i64 mx, .int .i64 lo, .int .i64 hi, .slice A n c, .int .i64 kb] 121)
            have K := Blk.new w1 121 #[.int .i64 ix, .int .i64 sb, .string (T nm), .int .i64 ty, .int .i64 ac, .bool true, .bool st, .int .i64 mx, .int .i64 lo, .int .i64 hi, .slice A n c, .int .i64 kb]
            have T := K.twelve
            have c3 := cell_regrown T.1.2.2.2.1
            have c5 := cell_regrown T.1.2.2.2.2.2.1
            have c11 := cell_regrown T.1.2.2.2.2.2.2.2.2.2.2.2
            have d2 := below_step b1 b2 (Nat.le_refl _)
            clear b1 b2 o1
            go_wp2_with fail
            refine region_later (by kernel_rfl) ?_
            refine phase_later (by kernel_rfl) 8 (below_drew _) [0, 1, 2, 3, 4, 5, 9, 6, 10, 7] rfl (by kernel_rfl) ?_
            simp only [picks, nth]
            repeat (go_big_quiet_step (fail))
            refine wpQuiet_nil ?_
            refine phase_op 8 7 rfl (by kernel_rfl) (by decide) ?_
            simp only [nth]
            go_wp2_with fail
            refine (TB.out _).mono ?_
            rintro e w2 ⟨rfl, b3⟩
            have d3 := below_step (below_drew _) b3 (Nat.le_refl _)
            have D3 := Lib.hid (below_step d2 d3 (Nat.le_refl _))
            go_wp2_with fail
            refine behind_later d3 ?_
            refine phase_later (by kernel_rfl) 3 (Below.refl _ _) [11, 12, 13, 14] rfl (by kernel_rfl) ?_
            simp only [picks, nth]
            repeat (go_big_quiet_step (fail))
            refine wpQuiet_nil ?_
            refine phase_op 15 2 rfl (by kernel_rfl) (by decide) ?_
            simp only [nth]
            go_wp2_with fail
            refine (OW.out _ _ _ _).mono ?_
            rintro e w3 ⟨rfl, b4⟩
            have D4 := Lib.hid (below_step D3.out b4 (Nat.le_refl _))
            go_wp2_with fail
            refine behind_later b4 ?_
            refine phase_later (by kernel_rfl) 0 (Below.refl _ _) [16, 17] rfl (by kernel_rfl) ?_
            simp only [picks, nth]
            repeat (go_big_quiet_step (fail))
            refine wpQuiet_nil ?_
            refine phase_end (by kernel_rfl) ?_
            go_wp2_with fail
            go_ret
            exact ⟨rfl, D4.out⟩
        · simp only [ne_eq, hk, not_false_eq_true, true_or, if_true]
          have hk2 : (kb == vb) = false := by simpa using hk
          have hk3 : (kb != vb) = true := by simpa using hk
          replace hk := Lib.hid hk
          go_enter Tryz.func66, Tryz.ntmps66
          go_wp2_with fail
          refine (FN.out).mono ?_
          rintro e w1 ⟨A, n, c, rfl, o1, b1⟩
          have b2 := alloc_one w1 (.cells #[.int .i64 ix, .int .i64 sb, .string (T nm), .int .i64 ty, .int .i64 ac, .bool true, .bool st, .int .i64 mx, .int .i64 lo, .int .i64 hi, .slice A n c, .int .i64 vb] 121)
          have K := Blk.new w1 121 #[.int .i64 ix, .int .i64 sb, .string (T nm), .int .i64 ty, .int .i64 ac, .bool true, .bool st, .int .i64 mx, .int .i64 lo, .int .i64 hi, .slice A n c, .int .i64 vb]
          have T := K.twelve
          have c3 := cell_regrown T.1.2.2.2.1
          have c5 := cell_regrown T.1.2.2.2.2.2.1
          have c11 := cell_regrown T.1.2.2.2.2.2.2.2.2.2.2.2
          have d2 := below_step b1 b2 (Nat.le_refl _)
          clear b1 b2 o1
          go_wp2_with fail
          refine region_later (by kernel_rfl) ?_
          refine phase_later (by kernel_rfl) 8 (below_drew _) [0, 1, 2, 3, 4, 5, 9, 6, 10, 7] rfl (by kernel_rfl) ?_
          simp only [picks, nth]
          repeat (go_big_quiet_step (fail))
          refine wpQuiet_nil ?_
          refine phase_op 8 7 rfl (by kernel_rfl) (by decide) ?_
          simp only [nth]
          go_wp2_with fail
          refine (TB.out _).mono ?_
          rintro e w2 ⟨rfl, b3⟩
          have d3 := below_step (below_drew _) b3 (Nat.le_refl _)
          have D3 := Lib.hid (below_step d2 d3 (Nat.le_refl _))
          go_wp2_with fail
          refine behind_later d3 ?_
          refine phase_later (by kernel_rfl) 3 (Below.refl _ _) [11, 12, 13, 14] rfl (by kernel_rfl) ?_
          simp only [picks, nth]
          repeat (go_big_quiet_step (fail))
          refine wpQuiet_nil ?_
          refine phase_op 15 2 rfl (by kernel_rfl) (by decide) ?_
          simp only [nth]
          go_wp2_with fail
          have D4 := D3
          refine behind_later (Below.refl _ _) ?_
          refine phase_later (by kernel_rfl) 0 (Below.refl _ _) [16, 17] rfl (by kernel_rfl) ?_
          simp only [picks, nth]
          repeat (go_big_quiet_step (fail))
          refine wpQuiet_nil ?_
          refine phase_end (by kernel_rfl) ?_
          go_wp2_with fail
          go_ret
          exact ⟨rfl, D4.out⟩
end Go.Proofs.YtbmocffnnlfnjaaGreat
/-
  Walks: Check of layer 30.
  Conditions: none.
-/
namespace Go.Proofs.YtbmocffnnlfnjaaGreat
set_option linter.unusedVariables false
set_option linter.unusedSimpArgs false
open Go.RowKit
theorem checkF_step {l : List Ent.En} {inn : Bool} {all : List Nat} {n k : Nat} (hk : k < n) : Mp.checkF l inn all (n - k) k = if Mp.oneS l inn (all.getD k 0) ≠ 0 then Mp.oneS l inn (all.getD k 0) else if 64 < Mp.sizeS (all.take (k + 1)) then 100925506 else Mp.checkF l inn all (n - (k + 1)) (k + 1) := by
  obtain ⟨m, hm⟩ : ∃ m, n - k = m + 1 := ⟨n - k - 1, by omega⟩
  have h2 : n - (k + 1) = m := by omega
  rw [hm, h2]
  rfl
set_option maxRecDepth 100000 in
set_option maxHeartbeats 4000000 in
theorem MCheck_any {F : Nat → Prop} {w : World} {g gv lc vc : Nat} {la : Addr} {vA : Option Addr} {xs vs : List Value} {D : Dc.Dic} {A : Option Addr} {n c B : Nat} {ws : List Nat} (inn : Bool) (h : DRt 66 w F g gv (some la) lc vA vc xs vs D) (hd : ∀ e ∈ D.l, e.dflt.length ≤ 1000000) (hw : RW w B A n c ws) (hwl : ∀ x ∈ ws, x < 4294967296) (hB : B ≤ w.heap.size) : Calls Tryz.prog 41 #[.pointer (some ⟨g, 0, none⟩), .slice A n c, .bool inn] w fun e w' => e = .returned (.int .u32 (Mp.checkS D.l inn ws)) ∧ Below w.heap.size w w' := by
  have hl := hw.len
  have hn9 := hw.lt
  obtain ⟨hnc, hc9⟩ : n ≤ c ∧ c ≤ 9223372036854775807 := ⟨RV.le hw, RV.cap hw⟩
  have hs : Mp.checkS D.l inn ws = if 8 < n then 100925506 else Mp.checkF D.l inn ws n 0 := by unfold Mp.checkS; rw [hl]
  rw [hs]
  by_cases h8 : 8 < n
  · simp only [h8, if_true]
    go_enter Tryz.func41, Tryz.ntmps41
    go_wp2_with fail
    go_ret
    exact ⟨rfl, Below.refl _ _⟩
  · simp only [h8, if_false]
    clear hs
    generalize hg : Mp.checkF D.l inn ws n 0 = r
    have HG := Lib.hid hg
    clear hg
    go_enter Tryz.func41, Tryz.ntmps41
    go_wp2_with fail
    go_loopw [19] (fun i wr => ∃ k : Nat, k ≤ n ∧ i = .int .i64 k ∧ Below w.heap.size w wr ∧ Mp.checkF D.l inn ws (n - k) k = r) (fun i _ => n - (intOf i).toNat)
    case atStart => exact ⟨0, by omega, rfl, Below.refl _ _, HG.out⟩
    case round =>
      obtain ⟨k, hk, rfl, hbel, hrr⟩ := hrel
      by_cases hlt : k < n
      · obtain ⟨b, o, rfl, hbB, q0⟩ := (hw.below (hbel.mono hB)).at_ hlt
        have ON := one_any (ws.getD k 0) (word_lt hwl k) inn (h.below hbel) hd
        have hwT := (hw.below (hbel.mono hB)).take (k := k + 1) (by omega)
        rw [checkF_step hlt] at hrr
        have SZ := fun (w1 : World) (hb : Below wr.heap.size wr w1) => MSize_any w1 (hwT.below (hb.mono (Nat.le_trans hB hbel.size))) (by omega) (fun x hx => hwl x (List.mem_of_mem_take hx))
        generalize Mp.oneS D.l inn (ws.getD k 0) = oo at *
        generalize ws.getD k 0 = x at *
        generalize Mp.sizeS (ws.take (k + 1)) = sz at *
        replace SZ := Lib.hid SZ; replace ON := Lib.hid ON
        by_cases ho : oo = 0
        · subst ho
          simp only [ne_eq, not_true_eq_false, if_false] at hrr
          by_cases h64 : 64 < sz
          · simp only [h64, if_true] at hrr
            subst hrr
            go_wp2_with fail
            refine (ON.out).mono ?_
            rintro e w1 ⟨rfl, b1⟩
            go_wp2_with fail
            refine (SZ.out _ b1).mono ?_
            rintro e w2 ⟨rfl, rfl⟩
            go_wp2_with fail
            go_ret
            exact ⟨rfl, below_step hbel b1 (Nat.le_refl _)⟩
          · simp only [h64, if_false] at hrr
            have HRR := Lib.hid hrr
            clear hrr
            go_wp2_with fail
            refine (ON.out).mono ?_
            rintro e w1 ⟨rfl, b1⟩
            go_wp2_with fail
            refine (SZ.out _ b1).mono ?_
            rintro e w2 ⟨rfl, rfl⟩
            go_wp2_with fail
            go_roundw
            case rel => exact ⟨k + 1, by omega, by go_num, below_step hbel b1 (Nat.le_refl _), HRR.out⟩
            case measure => simp [intOf] <;> omega
        · simp only [ne_eq, ho, not_false_eq_true, if_true] at hrr
          subst hrr
          have ho2 : (oo == 0) = false := by simpa using ho
          have ho3 : (oo != 0) = true := by simpa using ho
          replace ho := Lib.hid ho
          go_wp2_with fail
          refine (ON.out).mono ?_
          rintro e w1 ⟨rfl, b1⟩
          go_wp2_with fail
          go_ret
          exact ⟨rfl, below_step hbel b1 (Nat.le_refl _)⟩
      · obtain rfl : k = n := by omega
        rw [Nat.sub_self] at hrr
        have hrr2 : r = 0 := hrr.symm
        subst hrr2
        go_wp2_with fail
        go_ret
        exact ⟨rfl, hbel⟩
end Go.Proofs.YtbmocffnnlfnjaaGreat
/-
  Walks: Check of layer 30 without a dictionary.
  Conditions: none.
-/
namespace Go.Proofs.YtbmocffnnlfnjaaGreat
set_option linter.unusedVariables false
set_option linter.unusedSimpArgs false
open Go.RowKit
set_option maxHeartbeats 1000000 in
theorem MCheck_nil (A : Option Addr) (n c : Nat) (b : Bool) (w : World) : Calls Tryz.prog 41 #[.pointer none, .slice A n c, .bool b] w fun e w' => e = .returned (.int .u32 100925511) ∧ w = w' := by
  go_enter Tryz.func41, Tryz.ntmps41
  go_wp2_with fail
  go_ret
  exact ⟨rfl, rfl⟩
theorem Calls.grown_same {P : Program} {f : FuncId} {args : Array Value} {w : World} {d : Nat} {os : Array Obj} {v : Value}
    (h : Calls P f args (Go.Sort.grow (redrawn w d) os) fun e w' => e = .returned v ∧ Go.Sort.grow (redrawn w d) os = w') : Calls P f args (Go.Sort.grow (redrawn w d) os) fun e w'' => e = .returned v ∧ ∃ p : Regrown, w'' = Go.Sort.grow (redrawn w p.d) p.os :=
  h.mono fun _ _ ⟨he, hb⟩ => ⟨he, ⟨d, os⟩, hb.symm⟩
set_option maxHeartbeats 1000000 in
theorem MRight_nil (A : Option Addr) (n c : Nat) (b : Bool) (w : World) : Calls Tryz.prog 91 #[.pointer none, .slice A n c, .bool b] w fun e w' => e = .returned (.int .i64 17) ∧ w = w' := by
  go_enter Tryz.func91, Tryz.ntmps91
  go_wp2_with fail
  go_ret
  exact ⟨rfl, rfl⟩
set_option maxHeartbeats 1000000 in
theorem Gather_nil (A : Option Addr) (n c : Nat) (w : World) : Calls Tryz.prog 73 #[.pointer none, .slice A n c] w fun e w' => e = .returned (.tuple #[.slice none 0 0, .int .i64 17]) ∧ w = w' := by
  have R := Lib.hid (fun w => MRight_nil A n c false w)
  go_enter Tryz.func73, Tryz.ntmps73
  go_wp2_with fail
  refine (R.out _).mono ?_
  rintro e _ ⟨rfl, rfl⟩
  go_wp2_with fail
  go_ret2
  exact ⟨rfl, rfl⟩
end Go.Proofs.YtbmocffnnlfnjaaGreat
