/-
  Texts joined: Frm, FrmAll.
  Conditions: none.
-/
import Derived.Test.YtbmocffnnlfnjaaGreatJ04
import Derived.Test.YtbmocffnnlfnjaaGreatJ15
/-
  Walks: frame.Check, Before, Same, value, and the reference's.
  Conditions: none.
-/
namespace Go.Proofs.YtbmocffnnlfnjaaGreat
set_option linter.unusedVariables false
set_option linter.unusedSimpArgs false
open Go.RowKit
theorem checkN_a {i : Int} (r : Bool) (n : Nat) (h : i < 0) : Can.checkN i r n = 9 := by unfold Can.checkN; rw [if_pos (.inl h)]
theorem checkN_b {i : Int} (r : Bool) (n : Nat) (h : 2047 < i) : Can.checkN i r n = 9 := by unfold Can.checkN; rw [if_pos (.inr h)]
theorem checkN_c {i : Int} (r : Bool) {n : Nat} (h1 : ¬ i < 0) (h2 : ¬ 2047 < i) (h : 8 < n) : Can.checkN i r n = 3 := by unfold Can.checkN; rw [if_neg (by omega), if_pos h]
theorem checkN_d {i : Int} {n : Nat} (h1 : ¬ i < 0) (h2 : ¬ 2047 < i) (h3 : ¬ 8 < n) : Can.checkN i false n = 0 := by unfold Can.checkN; rw [if_neg (by omega), if_neg h3]; rfl
theorem checkN_e {i : Int} {n : Nat} (h1 : ¬ i < 0) (h2 : ¬ 2047 < i) (h3 : ¬ 8 < n) (h : 0 < n) : Can.checkN i true n = 4 := by unfold Can.checkN; rw [if_neg (by omega), if_neg h3, if_pos ⟨rfl, h⟩]
theorem checkN_f {i : Int} (h1 : ¬ i < 0) (h2 : ¬ 2047 < i) : Can.checkN i true 0 = 0 := by unfold Can.checkN; rw [if_neg (by omega), if_neg (by omega)]; rfl
set_option maxHeartbeats 800000 in
theorem RSame_any (i : Int) (r : Bool) {A : Option Addr} {n c B : Nat} {l : List UInt8} (i' : Int) (r' : Bool) {A' : Option Addr} {n' c' B' : Nat} {l' : List UInt8} (w : World) (h : RB w B A n c l) (h' : RB w B' A' n' c' l') (hB : B ≤ w.heap.size) (hB' : B' ≤ w.heap.size) :
    Calls Tryz.prog 53 #[.agg #[.int .i64 i, .bool r, .slice A n c], .agg #[.int .i64 i', .bool r', .slice A' n' c']] w fun e w' => e = .returned (.bool (Can.sameB ⟨i, r, l⟩ ⟨i', r', l'⟩)) ∧ Below w.heap.size w w' := by
  have b := fun o o' => alloc_two w o o'
  have c1 := fun o o' => convb (h.below ((b o o').mono hB))
  have c2 := fun o o' => convb (h'.below ((b o o').mono hB'))
  clear b
  by_cases hi : i = i'
  · subst hi
    by_cases hr : r = r'
    · subst hr
      have E0 : Can.sameB ⟨i, r, l⟩ ⟨i, r, l'⟩ = (l == l') := by unfold Can.sameB; simp
      have E := Lib.hid E0; clear E0
      by_cases hl : l = l'
      · subst hl
        go_enter Tryz.func53, Tryz.ntmps53
        go_wp2_with fail
        go_ret
        exact ⟨ret_bool (by rw [E.out]; simp), alloc_two _ _ _⟩
      · have hl' : (l == l') = false := by simpa using hl
        go_enter Tryz.func53, Tryz.ntmps53
        go_wp2_with fail
        go_ret
        exact ⟨ret_bool (by rw [E.out, hl']), alloc_two _ _ _⟩
    · have E0 : Can.sameB ⟨i, r, l⟩ ⟨i, r', l'⟩ = false := by unfold Can.sameB; simp [hr]
      have E := Lib.hid E0; clear E0
      have hb : (r == r') = false := by simpa using hr
      go_enter Tryz.func53, Tryz.ntmps53
      go_wp2_with fail
      go_ret
      exact ⟨ret_bool E.out.symm, alloc_two _ _ _⟩
  · have E0 : Can.sameB ⟨i, r, l⟩ ⟨i', r', l'⟩ = false := by unfold Can.sameB; simp [hi]
    have E := Lib.hid E0; clear E0
    have hb : (i == i') = false := by simpa using hi
    go_enter Tryz.func53, Tryz.ntmps53
    go_wp2_with fail
    go_ret
    exact ⟨ret_bool E.out.symm, alloc_two _ _ _⟩
end Go.Proofs.YtbmocffnnlfnjaaGreat
/-
  Walk: the reference's All.
  Conditions: none.
-/
namespace Go.Proofs.YtbmocffnnlfnjaaGreat
set_option linter.unusedVariables false
set_option linter.unusedSimpArgs false
open Go.RowKit
set_option maxRecDepth 100000 in
set_option maxHeartbeats 2000000 in
/-- Two slices of the same frames. -/
theorem All_any {A : Option Addr} {n c B : Nat} {fs : List Can.Fr} {A' : Option Addr} {c' B' : Nat} (w : World) (h : RF w B A n c fs) (h' : RF w B' A' n c' fs) (hB : B ≤ w.heap.size) (hB' : B' ≤ w.heap.size) :
    Calls Tryz.prog 25 #[.slice A n c, .slice A' n c'] w fun e w' => e = .returned (.bool true) ∧ Below w.heap.size w w' := by
  have hn := h.lt
  go_enter Tryz.func25, Tryz.ntmps25
  go_wp2_with fail
  go_loopw [5] (fun i wr => ∃ k : Nat, k ≤ n ∧ i = .int .i64 k ∧ Below w.heap.size w wr) (fun i _ => n - (intOf i).toNat)
  case atStart => exact ⟨0, by omega, rfl, Below.refl _ _⟩
  case round =>
    obtain ⟨k, hk, rfl, hbel⟩ := hrel
    by_cases hlt : k < n
    · obtain ⟨b, o, A1, n1, c1, rfl, hbB, q0, q1, q2, hr⟩ := (h.below (hbel.mono hB)).at_ hlt
      obtain ⟨b', o', A2, n2, c2, rfl, hbB', q0', q1', q2', hr'⟩ := (h'.below (hbel.mono hB')).at_ hlt
      generalize fs.getD k Can.zero = f at *
      obtain ⟨fi, fr, fd⟩ := f
      dsimp only at *
      have SR := Lib.hid (Can.sameB_refl ⟨fi, fr, fd⟩)
      replace q0 := cell_regrown q0
      replace q1 := cell_regrown q1
      replace q2 := cell_regrown q2
      replace q0' := cell_regrown q0'
      replace q1' := cell_regrown q1'
      replace q2' := cell_regrown q2'
      have hz := hbel.size
      go_wp2_with fail
      refine region_later (by kernel_rfl) ?_
      refine phase_later (by kernel_rfl) 2 (below_drew _) [0, 1, 4, 5, 2, 6, 3, 7] rfl (by kernel_rfl) ?_
      simp only [picks, nth]
      repeat (go_big_quiet_step (fail))
      refine wpQuiet_nil ?_
      refine phase_op 8 1 rfl (by kernel_rfl) (by decide) ?_
      simp only [nth]
      go_wp2_with fail
      refine (RSame_any fi fr fi fr _ hr.drew hr'.drew (Nat.le_trans hB hz) (Nat.le_trans hB' hz)).mono ?_
      rintro e w1 ⟨he, b1⟩
      rw [SR.out] at he
      subst he
      have d1 := below_step (below_drew wr) b1 (Nat.le_refl _)
      go_wp2_with fail
      refine behind_later d1 ?_
      refine phase_later (by kernel_rfl) 0 (Below.refl _ _) [9] rfl (by kernel_rfl) ?_
      simp only [picks, nth]
      repeat (go_big_quiet_step (fail))
      refine wpQuiet_nil ?_
      refine phase_end (by kernel_rfl) ?_
      go_wp2_with fail
      go_roundw
      case rel => exact ⟨k + 1, by omega, by go_num, below_step hbel d1 (Nat.le_refl _)⟩
      case measure => simp [intOf] <;> omega
    · obtain rfl : k = n := by omega
      go_wp2_with fail
      go_ret
      exact ⟨rfl, hbel⟩
end Go.Proofs.YtbmocffnnlfnjaaGreat
