/-
  Walks: frame.Check, Before, Same, value, and the reference's.
  Conditions: none.
-/
import Derived.Test.YtmhcobhpdlpoeaaText
import Derived.Test.YtmhcobhpdlpoeaaFrmPure
namespace Go.Proofs.Ytmhcobhpdlpoeaa
set_option linter.unusedVariables false
set_option linter.unusedSimpArgs false
open Go.RowKit
theorem ret_bool {a b : Bool} (h : a = b) : Ending.returned (.bool a) = .returned (.bool b) := by rw [h]
theorem alloc_one (w : World) (o : Obj) : Below w.heap.size w (w.alloc o) := (Below.refl _ _).alloc (Nat.le_refl _) o
theorem alloc_two (w : World) (o o' : Obj) : Below w.heap.size w ((w.alloc o).alloc o') := (alloc_one w o).alloc (by simp) o'
theorem checkN_a {i : Int} (r : Bool) (n : Nat) (h : i < 0) : Can.checkN i r n = 9 := by unfold Can.checkN; rw [if_pos (.inl h)]
theorem checkN_b {i : Int} (r : Bool) (n : Nat) (h : 2047 < i) : Can.checkN i r n = 9 := by unfold Can.checkN; rw [if_pos (.inr h)]
theorem checkN_c {i : Int} (r : Bool) {n : Nat} (h1 : ¬ i < 0) (h2 : ¬ 2047 < i) (h : 8 < n) : Can.checkN i r n = 3 := by unfold Can.checkN; rw [if_neg (by omega), if_pos h]
theorem checkN_d {i : Int} {n : Nat} (h1 : ¬ i < 0) (h2 : ¬ 2047 < i) (h3 : ¬ 8 < n) : Can.checkN i false n = 0 := by unfold Can.checkN; rw [if_neg (by omega), if_neg h3]; rfl
theorem checkN_e {i : Int} {n : Nat} (h1 : ¬ i < 0) (h2 : ¬ 2047 < i) (h3 : ¬ 8 < n) (h : 0 < n) : Can.checkN i true n = 4 := by unfold Can.checkN; rw [if_neg (by omega), if_neg h3, if_pos ⟨rfl, h⟩]
theorem checkN_f {i : Int} (h1 : ¬ i < 0) (h2 : ¬ 2047 < i) : Can.checkN i true 0 = 0 := by unfold Can.checkN; rw [if_neg (by omega), if_neg (by omega)]; rfl
set_option maxHeartbeats 400000 in
theorem Check_any (i : Int) (r : Bool) {A : Option Addr} {n c : Nat} (w : World) (hn : n ≤ 9223372036854775807) :
    Calls Try.prog 29 #[.agg #[.int .i64 i, .bool r, .slice A n c]] w fun e w' => e = .returned (.int .i64 (Can.checkN i r n)) ∧ Below w.heap.size w w' := by
  by_cases h1 : i < 0
  · go_enter Try.func29, Try.ntmps29
    go_wp2_with fail
    go_ret
    exact ⟨ret_int (checkN_a r n h1).symm, alloc_one _ _⟩
  by_cases h2 : 2047 < i
  · go_enter Try.func29, Try.ntmps29
    go_wp2_with fail
    go_ret
    exact ⟨ret_int (checkN_b r n h2).symm, alloc_one _ _⟩
  by_cases h3 : 8 < n
  · go_enter Try.func29, Try.ntmps29
    go_wp2_with fail
    go_ret
    exact ⟨ret_int (checkN_c r (by omega) (by omega) (by omega)).symm, alloc_one _ _⟩
  cases r
  · go_enter Try.func29, Try.ntmps29
    go_wp2_with fail
    go_ret
    exact ⟨ret_int (checkN_d (by omega) (by omega) (by omega)).symm, alloc_one _ _⟩
  · by_cases h4 : 0 < n
    · go_enter Try.func29, Try.ntmps29
      go_wp2_with fail
      go_ret
      exact ⟨ret_int (checkN_e (by omega) (by omega) (by omega) (by omega)).symm, alloc_one _ _⟩
    · obtain rfl : n = 0 := by omega
      go_enter Try.func29, Try.ntmps29
      go_wp2_with fail
      go_ret
      exact ⟨ret_int (checkN_f (by omega) (by omega)).symm, alloc_one _ _⟩
set_option maxHeartbeats 400000 in
theorem RCheck_any (i : Int) (r : Bool) {A : Option Addr} {n c : Nat} (w : World) (hn : n ≤ 9223372036854775807) :
    Calls Try.prog 34 #[.agg #[.int .i64 i, .bool r, .slice A n c]] w fun e w' => e = .returned (.int .i64 (Can.checkN i r n)) ∧ Below w.heap.size w w' := by
  by_cases h1 : i < 0
  · go_enter Try.func34, Try.ntmps34
    go_wp2_with fail
    go_ret
    exact ⟨ret_int (checkN_a r n h1).symm, alloc_one _ _⟩
  by_cases h2 : 2047 < i
  · go_enter Try.func34, Try.ntmps34
    go_wp2_with fail
    go_ret
    exact ⟨ret_int (checkN_b r n h2).symm, alloc_one _ _⟩
  by_cases h3 : 8 < n
  · go_enter Try.func34, Try.ntmps34
    go_wp2_with fail
    go_ret
    exact ⟨ret_int (checkN_c r (by omega) (by omega) (by omega)).symm, alloc_one _ _⟩
  cases r
  · go_enter Try.func34, Try.ntmps34
    go_wp2_with fail
    go_ret
    exact ⟨ret_int (checkN_d (by omega) (by omega) (by omega)).symm, alloc_one _ _⟩
  · by_cases h4 : 0 < n
    · go_enter Try.func34, Try.ntmps34
      go_wp2_with fail
      go_ret
      exact ⟨ret_int (checkN_e (by omega) (by omega) (by omega) (by omega)).symm, alloc_one _ _⟩
    · obtain rfl : n = 0 := by omega
      go_enter Try.func34, Try.ntmps34
      go_wp2_with fail
      go_ret
      exact ⟨ret_int (checkN_f (by omega) (by omega)).symm, alloc_one _ _⟩
set_option maxHeartbeats 400000 in
theorem Before_any (i : Int) (r : Bool) {A : Option Addr} {n c : Nat} (i' : Int) (r' : Bool) {A' : Option Addr} {n' c' : Nat} (w : World) :
    Calls Try.prog 32 #[.agg #[.int .i64 i, .bool r, .slice A n c], .agg #[.int .i64 i', .bool r', .slice A' n' c']] w fun e w' => e = .returned (.bool (Can.beforeN i r i' r')) ∧ Below w.heap.size w w' := by
  by_cases h : i = i'
  · subst h
    have E0 : ∀ r r', Can.beforeN i r i r' = (r' && !r) := fun r r' => by unfold Can.beforeN; cases r <;> cases r' <;> simp
    have E := Lib.hid E0; clear E0
    cases r <;> cases r'
    all_goals
      go_enter Try.func32, Try.ntmps32
      go_wp2_with fail
      go_ret
      exact ⟨ret_bool (by rw [E.out]; rfl), alloc_two _ _ _⟩
  · have E0 : Can.beforeN i r i' r' = decide (i < i') := by unfold Can.beforeN; simp [h]
    have E := Lib.hid E0; clear E0
    have hb : (i != i') = true := by simpa using h
    go_enter Try.func32, Try.ntmps32
    go_wp2_with fail
    go_ret
    exact ⟨ret_bool E.out.symm, alloc_two _ _ _⟩
set_option maxHeartbeats 400000 in
theorem RBefore_any (i : Int) (r : Bool) {A : Option Addr} {n c : Nat} (i' : Int) (r' : Bool) {A' : Option Addr} {n' c' : Nat} (w : World) :
    Calls Try.prog 12 #[.agg #[.int .i64 i, .bool r, .slice A n c], .agg #[.int .i64 i', .bool r', .slice A' n' c']] w fun e w' => e = .returned (.bool (Can.beforeN i r i' r')) ∧ Below w.heap.size w w' := by
  by_cases hl : i < i'
  · have E0 : Can.beforeN i r i' r' = true := by unfold Can.beforeN; simp [hl]
    have E := Lib.hid E0; clear E0
    go_enter Try.func12, Try.ntmps12
    go_wp2_with fail
    go_ret
    exact ⟨ret_bool E.out.symm, alloc_two _ _ _⟩
  by_cases h : i = i'
  · subst h
    have E0 : ∀ r r', Can.beforeN i r i r' = (r' && !r) := fun r r' => by unfold Can.beforeN; cases r <;> cases r' <;> simp
    have E := Lib.hid E0; clear E0
    cases r <;> cases r'
    all_goals
      go_enter Try.func12, Try.ntmps12
      go_wp2_with fail
      go_ret
      exact ⟨ret_bool (by rw [E.out]; rfl), alloc_two _ _ _⟩
  · have E0 : Can.beforeN i r i' r' = false := by unfold Can.beforeN; simp [hl, h]
    have E := Lib.hid E0; clear E0
    have hb : (i == i') = false := by simpa using h
    go_enter Try.func12, Try.ntmps12
    go_wp2_with fail
    go_ret
    exact ⟨ret_bool E.out.symm, alloc_two _ _ _⟩
set_option maxHeartbeats 800000 in
theorem RSame_any (i : Int) (r : Bool) {A : Option Addr} {n c B : Nat} {l : List UInt8} (i' : Int) (r' : Bool) {A' : Option Addr} {n' c' B' : Nat} {l' : List UInt8} (w : World) (h : RB w B A n c l) (h' : RB w B' A' n' c' l') (hB : B ≤ w.heap.size) (hB' : B' ≤ w.heap.size) :
    Calls Try.prog 11 #[.agg #[.int .i64 i, .bool r, .slice A n c], .agg #[.int .i64 i', .bool r', .slice A' n' c']] w fun e w' => e = .returned (.bool (Can.sameB ⟨i, r, l⟩ ⟨i', r', l'⟩)) ∧ Below w.heap.size w w' := by
  have b := fun o o' => alloc_two w o o'
  have c1 := fun o o' => convb (h.below ((b o o').mono hB))
  have c2 := fun o o' => convb (h'.below ((b o o').mono hB'))
  clear b
  by_cases hi : i = i'
  · subst hi
    by_cases hr : r = r'
    · subst hr
      have E0 : Can.sameB ⟨i, r, l⟩ ⟨i, r, l'⟩ = (l == l') := by unfold Can.sameB; simp
      have E := Lib.hid E0; clear E0
      by_cases hl : l = l'
      · subst hl
        go_enter Try.func11, Try.ntmps11
        go_wp2_with fail
        go_ret
        exact ⟨ret_bool (by rw [E.out]; simp), alloc_two _ _ _⟩
      · have hl' : (l == l') = false := by simpa using hl
        go_enter Try.func11, Try.ntmps11
        go_wp2_with fail
        go_ret
        exact ⟨ret_bool (by rw [E.out, hl']), alloc_two _ _ _⟩
    · have E0 : Can.sameB ⟨i, r, l⟩ ⟨i, r', l'⟩ = false := by unfold Can.sameB; simp [hr]
      have E := Lib.hid E0; clear E0
      have hb : (r == r') = false := by simpa using hr
      go_enter Try.func11, Try.ntmps11
      go_wp2_with fail
      go_ret
      exact ⟨ret_bool E.out.symm, alloc_two _ _ _⟩
  · have E0 : Can.sameB ⟨i, r, l⟩ ⟨i', r', l'⟩ = false := by unfold Can.sameB; simp [hi]
    have E := Lib.hid E0; clear E0
    have hb : (i == i') = false := by simpa using hi
    go_enter Try.func11, Try.ntmps11
    go_wp2_with fail
    go_ret
    exact ⟨ret_bool E.out.symm, alloc_two _ _ _⟩
end Go.Proofs.Ytmhcobhpdlpoeaa
