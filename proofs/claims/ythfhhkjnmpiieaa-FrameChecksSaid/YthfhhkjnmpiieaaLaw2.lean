/-
  Walk: FrameChecks.
  Conditions: none.
-/
import Derived.Test.YthfhhkjnmpiieaaKnown
namespace Go.Proofs.Ythfhhkjnmpiieaa
set_option linter.unusedVariables false
set_option linter.unusedSimpArgs false
open Go.ChangeShapes Go.WideShapes Go.ChangeAt Go.RowKit
section
variable {i i' : Int} {r r' : Bool} {A A' : Option Addr} {n c n' c' : Nat} {l l' : List UInt8}
set_option maxRecDepth 100000 in
set_option maxHeartbeats 8000000 in
theorem FrameChecks_walk (W : World) (wi : (Lit.int .i64 i).wf = true) (h : RB W W.heap.size A n c l) (wi' : (Lit.int .i64 i').wf = true) (h' : RB W W.heap.size A' n' c' l') :
    Calls Try.prog 5 #[.agg #[.int .i64 i, .bool r, .slice A n c], .agg #[.int .i64 i', .bool r', .slice A' n' c']] W fun e w' => e = .returned (.bool true) ∧ Below W.heap.size W w' := by
  by_cases h1 : 1000 < n
  · go_enter Try.func5, Try.ntmps5
    go_wp2_with fail
    refine (known_any _).mono ?_
    rintro e w1 ⟨rfl, b1⟩
    go_wp2_with fail
    go_ret
    exact ⟨rfl, below_step (alloc_two _ _ _) b1 (Nat.le_refl _)⟩
  by_cases h2 : 1000 < n'
  · go_enter Try.func5, Try.ntmps5
    go_wp2_with fail
    refine (known_any _).mono ?_
    rintro e w1 ⟨rfl, b1⟩
    go_wp2_with fail
    go_ret
    exact ⟨rfl, below_step (alloc_two _ _ _) b1 (Nat.le_refl _)⟩
  have hn := h.lt
  generalize hck : Can.checkN i r n = ck
  generalize hsm : Can.sameB ⟨i, r, l⟩ ⟨i', r', l'⟩ = sm
  generalize hbf : Can.beforeN i r i' r' = bf
  have CK := Lib.hid hck; have SM := Lib.hid hsm; have BF := Lib.hid hbf
  clear hck hsm hbf
  have K0 := (Blk.new W 24 #[.int .i64 i, .bool r, .slice A n c]).alloc (.cells #[.int .i64 i', .bool r', .slice A' n' c'] 24)
  have K1 := Blk.new (W.alloc (.cells #[.int .i64 i, .bool r, .slice A n c] 24)) 24 #[.int .i64 i', .bool r', .slice A' n' c']
  have D := alloc_two W (.cells #[.int .i64 i, .bool r, .slice A n c] 24) (.cells #[.int .i64 i', .bool r', .slice A' n' c'] 24)
  have hsz : W.heap.size < ((W.alloc (.cells #[.int .i64 i, .bool r, .slice A n c] 24)).alloc (.cells #[.int .i64 i', .bool r', .slice A' n' c'] 24)).heap.size := by simp; omega
  go_enter Try.func5, Try.ntmps5
  go_wp2_with fail
  generalize hW1 : (W.alloc (.cells #[.int .i64 i, .bool r, .slice A n c] 24)).alloc (.cells #[.int .i64 i', .bool r', .slice A' n' c'] 24) = w0 at *
  clear hW1
  simp only [World.size_alloc] at K1
  have G0 := K0.three3
  have G1 := K1.three3
  refine region_later (by kernel_rfl) ?_
  refine phase_later (by kernel_rfl) 25 (below_drew _) [0, 2] rfl (by kernel_rfl) ?_
  simp only [picks, nth]
  repeat (go_big_quiet_step (fail))
  refine wpQuiet_nil ?_
  refine phase_op 1 24 rfl (by kernel_rfl) (by decide) ?_
  simp only [nth]
  go_wp2_with fail
  refine (Check_any i r _ hn).mono ?_
  rintro e w1 ⟨he, b1⟩
  rw [CK.out] at he
  subst he
  have b1' := below_step (below_drew w0) b1 (Nat.le_refl _)
  replace D := below_step D b1' (Nat.le_refl _)
  replace K0 := K0.later b1'
  replace G0 := K0.three3
  replace K1 := K1.later b1'
  replace G1 := K1.three3
  go_wp2_with fail
  refine behind_later b1' ?_
  refine phase_op 3 23 rfl (by kernel_rfl) (by decide) ?_
  simp only [nth]
  go_wp2_with fail
  refine (RCheck_any i r _ hn).mono ?_
  rintro e w2 ⟨he, b2⟩
  rw [CK.out] at he
  subst he
  replace D := below_step D b2 (Nat.le_refl _)
  replace K0 := K0.later b2
  replace G0 := K0.three3
  replace K1 := K1.later b2
  replace G1 := K1.three3
  go_wp2_with fail
  refine behind_later b2 ?_
  refine phase_later (by kernel_rfl) 17 (Below.refl _ _) [4, 5, 6, 7, 9, 10] rfl (by kernel_rfl) ?_
  simp only [picks, nth]
  repeat (go_big_quiet_step (fail))
  refine wpQuiet_nil ?_
  refine phase_op 8 16 rfl (by kernel_rfl) (by decide) ?_
  simp only [nth]
  go_wp2_with fail
  refine (Same_any i r i' r' _ (h.below D) (h'.below D) D.size D.size).mono ?_
  rintro e w3 ⟨he, b3⟩
  rw [SM.out] at he
  subst he
  replace D := below_step D b3 (Nat.le_refl _)
  replace K0 := K0.later b3
  replace G0 := K0.three3
  replace K1 := K1.later b3
  replace G1 := K1.three3
  go_wp2_with fail
  refine behind_later b3 ?_
  refine phase_op 11 15 rfl (by kernel_rfl) (by decide) ?_
  simp only [nth]
  go_wp2_with fail
  refine (RSame_any i r i' r' _ (h.below D) (h'.below D) D.size D.size).mono ?_
  rintro e w4 ⟨he, b4⟩
  rw [SM.out] at he
  subst he
  replace D := below_step D b4 (Nat.le_refl _)
  replace K0 := K0.later b4
  replace G0 := K0.three3
  replace K1 := K1.later b4
  replace G1 := K1.three3
  go_wp2_with fail
  refine behind_later b4 ?_
  refine phase_later (by kernel_rfl) 8 (Below.refl _ _) [12, 13, 14, 15, 16, 18, 19] rfl (by kernel_rfl) ?_
  simp only [picks, nth]
  repeat (go_big_quiet_step (fail))
  refine wpQuiet_nil ?_
  refine phase_op 17 7 rfl (by kernel_rfl) (by decide) ?_
  simp only [nth]
  go_wp2_with fail
  refine (Before_any i r i' r' _).mono ?_
  rintro e w5 ⟨he, b5⟩
  rw [BF.out] at he
  subst he
  replace D := below_step D b5 (Nat.le_refl _)
  replace K0 := K0.later b5
  replace G0 := K0.three3
  replace K1 := K1.later b5
  replace G1 := K1.three3
  go_wp2_with fail
  refine behind_later b5 ?_
  refine phase_op 20 6 rfl (by kernel_rfl) (by decide) ?_
  simp only [nth]
  go_wp2_with fail
  refine (RBefore_any i r i' r' _).mono ?_
  rintro e w6 ⟨he, b6⟩
  rw [BF.out] at he
  subst he
  replace D := below_step D b6 (Nat.le_refl _)
  replace K0 := K0.later b6
  replace G0 := K0.three3
  replace K1 := K1.later b6
  replace G1 := K1.three3
  go_wp2_with fail
  refine behind_later b6 ?_
  refine phase_later (by kernel_rfl) 3 (Below.refl _ _) [21, 22, 23] rfl (by kernel_rfl) ?_
  simp only [picks, nth]
  repeat (go_big_quiet_step (fail))
  refine wpQuiet_nil ?_
  refine phase_op 24 2 rfl (by kernel_rfl) (by decide) ?_
  simp only [nth]
  go_wp2_with fail
  refine (known_any _).mono ?_
  rintro e w7 ⟨rfl, b7⟩
  replace D := below_step D b7 (Nat.le_refl _)
  replace K0 := K0.later b7
  replace G0 := K0.three3
  replace K1 := K1.later b7
  replace G1 := K1.three3
  go_wp2_with fail
  refine behind_later b7 ?_
  refine phase_later (by kernel_rfl) 0 (Below.refl _ _) [25, 26] rfl (by kernel_rfl) ?_
  simp only [picks, nth]
  repeat (go_big_quiet_step (fail))
  refine wpQuiet_nil ?_
  refine phase_end (by kernel_rfl) ?_
  go_wp2_with fail
  go_ret
  exact ⟨rfl, D⟩
end
end Go.Proofs.Ythfhhkjnmpiieaa
