/-
  Walk: EdsLines.
  Conditions: none.
-/
import Derived.Test.YtmolmpgampmolaaJ18
import Derived.Test.YtmolmpgampmolaaJ20
import Derived.Test.YtmolmpgampmolaaJ21
namespace Go.Proofs.Ytmolmpgampmolaa
set_option linter.unusedVariables false
set_option linter.unusedSimpArgs false
open Go.RowKit Go.Sort
set_option maxRecDepth 100000 in
set_option maxHeartbeats 8000000 in
theorem EdsLines_walk (W : World) {e : Ent.En} {A : Option Addr} {n c : Nat} (wr : RB W W.heap.size A n c e.dflt) (wn : e.name.length ≤ 9223372036854775807) : Calls Try.prog 4 #[enV e A n c] W fun e w' => e = .returned (.bool true) ∧ Below W.heap.size W w' := by
  have b0 := alloc_one W (.cells #[.int .i64 e.index, .int .i64 e.sub, .string (T e.name), .int .i64 e.type, .int .i64 e.access, .bool e.map, .bool e.store, .int .i64 e.max, .int .i64 e.low, .int .i64 e.high, .slice A n c] 36)
  have K0 := Blk.new W 36 #[.int .i64 e.index, .int .i64 e.sub, .string (T e.name), .int .i64 e.type, .int .i64 e.access, .bool e.map, .bool e.store, .int .i64 e.max, .int .i64 e.low, .int .i64 e.high, .slice A n c]
  have F0 := K0.eleven
  have hT := T_size e.name
  have hlt := wr.lt
  have KN := Lib.hid (fun w => known17_any w)
  have WR := Lib.hid wr
  unfold enV
  by_cases hbig : 1000 < n
  · go_enter Try.func4, Try.ntmps4
    go_wp2_with fail
    refine (KN.out _).mono ?_
    rintro e w8 ⟨rfl, b8⟩
    go_wp2_with fail
    go_ret
    exact ⟨rfl, below_step b0 b8 (Nat.le_refl _)⟩
  by_cases hbig2 : 1000 < e.name.length
  · go_enter Try.func4, Try.ntmps4
    go_wp2_with fail
    refine (KN.out _).mono ?_
    rintro e w8 ⟨rfl, b8⟩
    go_wp2_with fail
    go_ret
    exact ⟨rfl, below_step b0 b8 (Nat.le_refl _)⟩
  have LN := Line_any (A := A) (n := n) (c := c) e _ (wr.below b0) b0.size (by omega)
  have hn1 : n ≤ 1000 := by omega
  have hn2 : e.name.length ≤ 1000 := by omega
  unfold ShowPost enV at LN
  by_cases hr : Ent.rightS e = 0
  case neg =>
    rw [Ed.line_bad hr] at LN
    have er : (Ent.rightS e != 0) = true := by simpa using hr
    generalize Ent.rightS e = rs at *
    dsimp only at LN
    have t0 : T [] = (⟨#[]⟩ : ByteArray) := rfl
    rw [t0] at LN
    replace LN := Lib.hid LN
    clear hr hbig hbig2 wr
    go_enter Try.func4, Try.ntmps4
    go_wp2_with fail
    refine (LN.out).mono ?_
    rintro e w1 ⟨rfl, b1⟩
    have d1 := below_step b0 b1 (Nat.le_refl _)
    go_wp2_with fail
    refine (KN.out _).mono ?_
    rintro e w8 ⟨rfl, b8⟩
    go_wp2_with fail
    go_ret
    exact ⟨rfl, below_step d1 b8 (Nat.le_refl _)⟩
  have hll := Ed.line_len e
  have hpl := Ed.parse_line hr
  rw [Ed.line_ok hr] at LN hll
  dsimp only at LN hll
  have PA := fun w => EParse_any (Ed.lineT e) w (by omega)
  rw [hpl] at PA
  generalize Ed.lineT e = L at *
  replace LN := Lib.hid LN
  replace PA := Lib.hid PA
  clear hr hbig hbig2 wr hll hpl
  go_enter Try.func4, Try.ntmps4
  go_wp2_with fail
  refine (LN.out).mono ?_
  rintro ex w1 ⟨rfl, b1⟩
  have d1 := below_step b0 b1 (Nat.le_refl _)
  have K1 := K0.later b1
  clear F0 K0 b1 LN
  go_wp2_with fail
  refine (PA.out _).mono ?_
  rintro ex w2 ⟨A2, c2, rfl, o2, b2⟩
  dsimp only [List.length_cons, List.length_nil] at o2
  have d2 := below_step d1 b2 (Nat.le_refl _)
  have K2 := K1.later b2
  clear K1 PA b2 d1
  obtain ⟨b, o, A3, n3, c3, rfl, hbB, hr, hc⟩ := (o2.ren).at_ (i := 0) (by omega)
  simp only [List.getD_cons_zero, Nat.zero_mul, Nat.zero_add, Nat.add_zero] at hr hc
  have SM := RESame_eq e (A := A3) (n := n3) (c := c3) (A' := A) (n' := n) (c' := c) w2.drew (hr.drew) ((WR.out.below d2).drew) (Nat.le_refl _) d2.size
  unfold enV at SM
  replace SM := Lib.hid SM
  have p0 := cell_regrown (hc 0 _ rfl)
  have q0 := cell_regrown (K2.cell 0)
  have p1 := cell_regrown (hc 1 _ rfl)
  have q1 := cell_regrown (K2.cell 1)
  have p2 := cell_regrown (hc 2 _ rfl)
  have q2 := cell_regrown (K2.cell 2)
  have p3 := cell_regrown (hc 3 _ rfl)
  have q3 := cell_regrown (K2.cell 3)
  have p4 := cell_regrown (hc 4 _ rfl)
  have q4 := cell_regrown (K2.cell 4)
  have p5 := cell_regrown (hc 5 _ rfl)
  have q5 := cell_regrown (K2.cell 5)
  have p6 := cell_regrown (hc 6 _ rfl)
  have q6 := cell_regrown (K2.cell 6)
  have p7 := cell_regrown (hc 7 _ rfl)
  have q7 := cell_regrown (K2.cell 7)
  have p8 := cell_regrown (hc 8 _ rfl)
  have q8 := cell_regrown (K2.cell 8)
  have p9 := cell_regrown (hc 9 _ rfl)
  have q9 := cell_regrown (K2.cell 9)
  have p10 := cell_regrown (hc 10 _ rfl)
  have q10 := cell_regrown (K2.cell 10)
  simp only [Nat.add_zero] at p0
  clear hc hr o2
  go_wp2_with fail
  refine region_later (by kernel_rfl) ?_
  refine phase_later (by kernel_rfl) 6 (below_drew _) [0, 1, 2, 3, 4, 5, 6, 7, 8, 11, 9, 10] rfl (by kernel_rfl) ?_
  simp only [picks, nth]
  repeat (go_big_quiet_step (fail))
  refine wpQuiet_nil ?_
  refine phase_op 12 5 rfl (by kernel_rfl) (by decide) ?_
  simp only [nth]
  go_wp2_with (go_at_call 12; refine (SM.out).mono ?_; rintro ex w3 ⟨rfl, b3⟩)
  have b4 : Below w2.heap.size w2 w3 := (below_drew w2).trans b3
  refine behind_later b4 ?_
  refine phase_later (by kernel_rfl) 3 (Below.refl _ _) [13, 14] rfl (by kernel_rfl) ?_
  simp only [picks, nth]
  repeat (go_big_quiet_step (fail))
  refine wpQuiet_nil ?_
  refine phase_op 15 2 rfl (by kernel_rfl) (by decide) ?_
  simp only [nth]
  go_wp2_with (go_at_call 7; refine (KN.out _).mono ?_; rintro ex w4 ⟨rfl, b5⟩)
  have b6 := below_step b4 b5 (Nat.le_refl _)
  refine behind_later b5 ?_
  refine phase_later (by kernel_rfl) 0 (Below.refl _ _) [16, 17] rfl (by kernel_rfl) ?_
  simp only [picks, nth]
  repeat (go_big_quiet_step (fail))
  refine wpQuiet_nil ?_
  refine phase_end (by kernel_rfl) ?_
  go_wp2_with fail
  go_ret
  exact ⟨rfl, below_step d2 b6 (Nat.le_refl _)⟩
end Go.Proofs.Ytmolmpgampmolaa
