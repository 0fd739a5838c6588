/-
  Walk: OctetGets.
  Conditions: none.
-/
import Derived.Test.YtnhlhhcijgplcaaKnown
import Derived.Test.YtnhlhhcijgplcaaFrame
namespace Go.Proofs.Ytnhlhhcijgplcaa
set_option linter.unusedVariables false
set_option linter.unusedSimpArgs false
open Go.ChangeShapes Go.WideShapes Go.ChangeAt Go.RowKit
set_option maxHeartbeats 1000000 in
theorem OctetGets_walk {A : Option Addr} {n c : Nat} {l : List UInt8} (W : World) (h : RB W W.heap.size A n c l) (p : Int) (wp : (Lit.int .i64 p).wf = true) (x : Int) (wx : (Lit.int .i64 x).wf = true) :
    Calls Try.prog 7 #[.slice A n c, .int .i64 p, .int .i64 x] W fun e w' => e = .returned (.bool true) ∧ Below W.heap.size W w' := by
  by_cases hbig : 1048576 < n
  · go_enter Try.func7, Try.ntmps7
    go_wp2_with fail
    refine (known_any _).mono ?_
    rintro e w1 ⟨rfl, hb1⟩
    go_wp2_with fail
    go_ret
    exact ⟨rfl, hb1⟩
  · go_enter Try.func7, Try.ntmps7
    go_wp2_with fail
    refine (Lent_any _ h (by omega) (Nat.le_refl _)).mono ?_
    rintro e w1 ⟨A1, c1, rfl, h1, b1⟩
    have o1 := h1.take (k := n) (by omega)
    rw [take_mark h.len] at o1
    have q1 := h.below b1
    go_wp2_with fail
    refine (Get_any p x _ o1.rb).mono ?_
    rintro e w2 ⟨rfl, rfl⟩
    go_wp2_with fail
    refine (RGet_any p x _ q1).mono ?_
    rintro e w2 ⟨rfl, rfl⟩
    go_wp2_with fail
    refine (GetInt_any p x _ o1.rb).mono ?_
    rintro e w2 ⟨rfl, rfl⟩
    go_wp2_with fail
    refine (RGetInt_any p x _ q1).mono ?_
    rintro e w2 ⟨rfl, rfl⟩
    go_wp2_with fail
    refine (Kept_any _ h1.rb q1).mono ?_
    rintro e w4 ⟨he, rfl⟩
    rw [beq_self_eq_true] at he
    subst he
    go_wp2_with fail
    refine (known_any _).mono ?_
    rintro e w5 ⟨rfl, hb5⟩
    go_wp2_with fail
    go_ret
    exact ⟨rfl, below_step b1 hb5 (Nat.le_refl _)⟩
end Go.Proofs.Ytnhlhhcijgplcaa
