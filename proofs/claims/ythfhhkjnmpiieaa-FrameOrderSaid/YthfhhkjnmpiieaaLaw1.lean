/-
  Walk: FrameOrder.
  Conditions: none.
-/
import Derived.Test.YthfhhkjnmpiieaaKnown
namespace Go.Proofs.Ythfhhkjnmpiieaa
set_option linter.unusedVariables false
set_option linter.unusedSimpArgs false
open Go.ChangeShapes Go.WideShapes Go.ChangeAt Go.RowKit
theorem order_cases (i : Int) (r : Bool) (i' : Int) (r' : Bool) :
    ((i == i') = false ∧ Can.beforeN i r i' r' = true ∧ Can.beforeN i' r' i r = false) ∨ ((i == i') = false ∧ Can.beforeN i r i' r' = false ∧ Can.beforeN i' r' i r = true) ∨
    (i = i' ∧ r = false ∧ r' = true ∧ Can.beforeN i false i true = true ∧ Can.beforeN i true i false = false) ∨ (i = i' ∧ r = true ∧ r' = false ∧ Can.beforeN i true i false = false ∧ Can.beforeN i false i true = true) ∨ (i = i' ∧ r = r' ∧ Can.beforeN i r i r = false) := by
  unfold Can.beforeN
  by_cases h : i = i'
  · subst h
    cases r <;> cases r' <;> simp
  · have h1 : (i == i') = false := by simpa using h
    by_cases hl : i < i'
    · left; simp [h1, hl, h]; omega
    · right; left
      have h2 : i' < i := by omega
      simp [h1, hl, h, h2]
theorem before_trans {i : Int} {r : Bool} {i' : Int} {r' : Bool} {i2 : Int} {r2 : Bool} (h : Can.beforeN i r i' r' = true) (h' : Can.beforeN i' r' i2 r2 = true) : Can.beforeN i r i2 r2 = true := by
  unfold Can.beforeN at *
  simp only [Bool.or_eq_true, Bool.and_eq_true, decide_eq_true_eq, Bool.not_eq_true'] at *
  rcases h with h | ⟨⟨h1, h2⟩, h3⟩
  · rcases h' with h' | ⟨⟨h4, h5⟩, h6⟩
    · left; omega
    · left; omega
  · rcases h' with h' | ⟨⟨h4, h5⟩, h6⟩
    · left; omega
    · rw [h3] at h5; cases h5
section
variable {i i' i2 : Int} {r r' r2 : Bool} {A A' A2 : Option Addr} {n c n' c' n2 c2 : Nat}
set_option maxRecDepth 100000 in
set_option maxHeartbeats 2000000 in
theorem order_big (W : World) (hb : 1000 < n ∨ 1000 < n' ∨ 1000 < n2) :
    Calls Try.prog 4 #[.agg #[.int .i64 i, .bool r, .slice A n c], .agg #[.int .i64 i', .bool r', .slice A' n' c'], .agg #[.int .i64 i2, .bool r2, .slice A2 n2 c2]] W fun e w' => e = .returned (.bool true) ∧ Below W.heap.size W w' := by
  by_cases h1 : 1000 < n
  · clear hb
    go_enter Try.func4, Try.ntmps4
    go_wp2_with fail
    refine (known_any _).mono ?_
    rintro e w1 ⟨rfl, b1⟩
    go_wp2_with fail
    go_ret
    exact ⟨rfl, below_step (alloc_three _ _ _ _) b1 (Nat.le_refl _)⟩
  by_cases h2 : 1000 < n'
  · clear hb
    go_enter Try.func4, Try.ntmps4
    go_wp2_with fail
    refine (known_any _).mono ?_
    rintro e w1 ⟨rfl, b1⟩
    go_wp2_with fail
    go_ret
    exact ⟨rfl, below_step (alloc_three _ _ _ _) b1 (Nat.le_refl _)⟩
  have h3 : 1000 < n2 := by omega
  clear hb
  go_enter Try.func4, Try.ntmps4
  go_wp2_with fail
  refine (known_any _).mono ?_
  rintro e w1 ⟨rfl, b1⟩
  go_wp2_with fail
  go_ret
  exact ⟨rfl, below_step (alloc_three _ _ _ _) b1 (Nat.le_refl _)⟩
set_option maxRecDepth 100000 in
set_option maxHeartbeats 4000000 in
/-- Of two that are not alike, the first one not ahead. -/
theorem order_no (W : World) (h1 : n ≤ 1000) (h2 : n' ≤ 1000) (h3 : n2 ≤ 1000) (y : Bool) (hx : Can.beforeN i r i' r' = false) (hy : Can.beforeN i' r' i r = y) (hs : ((i == i') = false ∧ y = true) ∨ ((i == i') = true ∧ (r == r') = false ∧ y = true) ∨ ((i == i') = true ∧ (r == r') = true ∧ y = false)) :
    Calls Try.prog 4 #[.agg #[.int .i64 i, .bool r, .slice A n c], .agg #[.int .i64 i', .bool r', .slice A' n' c'], .agg #[.int .i64 i2, .bool r2, .slice A2 n2 c2]] W fun e w' => e = .returned (.bool true) ∧ Below W.heap.size W w' := by
  have X := Lib.hid hx; have Y := Lib.hid hy; clear hx hy
  rcases hs with ⟨hs1, rfl⟩ | ⟨hs1, hs2, rfl⟩ | ⟨hs1, hs2, rfl⟩
  all_goals
    go_enter Try.func4, Try.ntmps4
    go_wp2_with fail
    refine (Before_any i r i' r' _).mono ?_
    rintro e w1 ⟨he, b1⟩
    rw [X.out] at he
    subst he
    have d1 := below_step (alloc_three W _ _ _) b1 (Nat.le_refl _)
    have K0 := ((((Blk.new W 24 #[.int .i64 i, .bool r, .slice A n c]).alloc _).alloc _).later b1)
    have F0 := K0.three
    have K1 := (((Blk.new _ 24 #[.int .i64 i', .bool r', .slice A' n' c']).alloc _).later b1)
    have F1 := K1.three
    simp only [World.size_alloc] at F0 F1
    go_wp2_with fail
    refine (Before_any i' r' i r _).mono ?_
    rintro e w2 ⟨he, b2⟩
    rw [Y.out] at he
    subst he
    have d2 := below_step d1 b2 (Nat.le_refl _)
    replace K0 := K0.later b2
    replace F0 := K0.three
    replace K1 := K1.later b2
    replace F1 := K1.three
    simp only [World.size_alloc] at F0 F1
    go_wp2_with fail
    refine (known_any _).mono ?_
    rintro e w3 ⟨rfl, b3⟩
    go_wp2_with fail
    go_ret
    exact ⟨rfl, below_step d2 b3 (Nat.le_refl _)⟩
set_option maxRecDepth 100000 in
set_option maxHeartbeats 4000000 in
/-- The first one ahead. -/
theorem order_yes (W : World) (h1 : n ≤ 1000) (h2 : n' ≤ 1000) (h3 : n2 ≤ 1000) (hx : Can.beforeN i r i' r' = true) (hy : Can.beforeN i' r' i r = false) (hs : (i == i') = false ∨ ((i == i') = true ∧ (r == r') = false)) :
    Calls Try.prog 4 #[.agg #[.int .i64 i, .bool r, .slice A n c], .agg #[.int .i64 i', .bool r', .slice A' n' c'], .agg #[.int .i64 i2, .bool r2, .slice A2 n2 c2]] W fun e w' => e = .returned (.bool true) ∧ Below W.heap.size W w' := by
  have htr := @before_trans i r i' r' i2 r2 hx
  have X := Lib.hid hx; have Y := Lib.hid hy; clear hx hy
  cases hz : Can.beforeN i' r' i2 r2 with
  | false =>
    have Z := Lib.hid hz; clear hz htr
    rcases hs with hs1 | ⟨hs1, hs2⟩
    all_goals
      go_enter Try.func4, Try.ntmps4
      go_wp2_with fail
      refine (Before_any i r i' r' _).mono ?_
      rintro e w1 ⟨he, b1⟩
      rw [X.out] at he
      subst he
      have d1 := below_step (alloc_three W _ _ _) b1 (Nat.le_refl _)
      have K0 := ((((Blk.new W 24 #[.int .i64 i, .bool r, .slice A n c]).alloc _).alloc _).later b1)
      have F0 := K0.three
      have K1 := (((Blk.new _ 24 #[.int .i64 i', .bool r', .slice A' n' c']).alloc _).later b1)
      have F1 := K1.three
      have K2 := (Blk.new _ 24 #[.int .i64 i2, .bool r2, .slice A2 n2 c2]).later b1
      have F2 := K2.three
      simp only [World.size_alloc] at F0 F1 F2
      go_wp2_with fail
      refine (Before_any i' r' i r _).mono ?_
      rintro e w2 ⟨he, b2⟩
      rw [Y.out] at he
      subst he
      have d2 := below_step d1 b2 (Nat.le_refl _)
      replace K0 := K0.later b2
      replace F0 := K0.three
      replace K1 := K1.later b2
      replace F1 := K1.three
      replace K2 := K2.later b2
      replace F2 := K2.three
      simp only [World.size_alloc] at F0 F1 F2
      go_wp2_with fail
      refine (Before_any i' r' i2 r2 _).mono ?_
      rintro e w3 ⟨he, b3⟩
      rw [Z.out] at he
      subst he
      have d3 := below_step d2 b3 (Nat.le_refl _)
      go_wp2_with fail
      refine (known_any _).mono ?_
      rintro e w4 ⟨rfl, b4⟩
      go_wp2_with fail
      go_ret
      exact ⟨rfl, below_step d3 b4 (Nat.le_refl _)⟩
  | true =>
    have Z := Lib.hid hz; have TR := Lib.hid (htr hz); clear hz htr
    rcases hs with hs1 | ⟨hs1, hs2⟩
    all_goals
      go_enter Try.func4, Try.ntmps4
      go_wp2_with fail
      refine (Before_any i r i' r' _).mono ?_
      rintro e w1 ⟨he, b1⟩
      rw [X.out] at he
      subst he
      have d1 := below_step (alloc_three W _ _ _) b1 (Nat.le_refl _)
      have K0 := ((((Blk.new W 24 #[.int .i64 i, .bool r, .slice A n c]).alloc _).alloc _).later b1)
      have F0 := K0.three
      have K1 := (((Blk.new _ 24 #[.int .i64 i', .bool r', .slice A' n' c']).alloc _).later b1)
      have F1 := K1.three
      have K2 := (Blk.new _ 24 #[.int .i64 i2, .bool r2, .slice A2 n2 c2]).later b1
      have F2 := K2.three
      simp only [World.size_alloc] at F0 F1 F2
      go_wp2_with fail
      refine (Before_any i' r' i r _).mono ?_
      rintro e w2 ⟨he, b2⟩
      rw [Y.out] at he
      subst he
      have d2 := below_step d1 b2 (Nat.le_refl _)
      replace K0 := K0.later b2
      replace F0 := K0.three
      replace K1 := K1.later b2
      replace F1 := K1.three
      replace K2 := K2.later b2
      replace F2 := K2.three
      simp only [World.size_alloc] at F0 F1 F2
      go_wp2_with fail
      refine (Before_any i' r' i2 r2 _).mono ?_
      rintro e w3 ⟨he, b3⟩
      rw [Z.out] at he
      subst he
      have d3 := below_step d2 b3 (Nat.le_refl _)
      replace K0 := K0.later b3
      replace F0 := K0.three
      replace K2 := K2.later b3
      replace F2 := K2.three
      simp only [World.size_alloc] at F0 F2
      go_wp2_with fail
      refine (Before_any i r i2 r2 _).mono ?_
      rintro e w4 ⟨he, b4⟩
      rw [TR.out] at he
      subst he
      have d4 := below_step d3 b4 (Nat.le_refl _)
      go_wp2_with fail
      refine (known_any _).mono ?_
      rintro e w5 ⟨rfl, b5⟩
      go_wp2_with fail
      go_ret
      exact ⟨rfl, below_step d4 b5 (Nat.le_refl _)⟩
theorem FrameOrder_walk {l l' l2 : List UInt8} (W : World) (wi : (Lit.int .i64 i).wf = true) (h : RB W W.heap.size A n c l) (wi' : (Lit.int .i64 i').wf = true) (h' : RB W W.heap.size A' n' c' l') (wi2 : (Lit.int .i64 i2).wf = true) (h2 : RB W W.heap.size A2 n2 c2 l2) :
    Calls Try.prog 4 #[.agg #[.int .i64 i, .bool r, .slice A n c], .agg #[.int .i64 i', .bool r', .slice A' n' c'], .agg #[.int .i64 i2, .bool r2, .slice A2 n2 c2]] W fun e w' => e = .returned (.bool true) ∧ Below W.heap.size W w' := by
  by_cases hb : 1000 < n ∨ 1000 < n' ∨ 1000 < n2
  · exact order_big W hb
  rcases order_cases i r i' r' with ⟨a, b, d⟩ | ⟨a, b, d⟩ | ⟨rfl, rfl, rfl, b, d⟩ | ⟨rfl, rfl, rfl, b, d⟩ | ⟨rfl, rfl, b⟩
  · exact order_yes W (by omega) (by omega) (by omega) b d (.inl a)
  · exact order_no W (by omega) (by omega) (by omega) true b d (.inl ⟨a, rfl⟩)
  · exact order_yes W (by omega) (by omega) (by omega) b d (.inr ⟨by simp, rfl⟩)
  · exact order_no W (by omega) (by omega) (by omega) true b d (.inr (.inl ⟨by simp, rfl, rfl⟩))
  · exact order_no W (by omega) (by omega) (by omega) false b b (.inr (.inr ⟨by simp, by simp, rfl⟩))
end
end Go.Proofs.Ythfhhkjnmpiieaa
