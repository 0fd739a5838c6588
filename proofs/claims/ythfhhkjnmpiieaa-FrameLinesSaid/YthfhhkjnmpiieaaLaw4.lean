/-
  Walk: FrameLines.
  Conditions: none.
-/
import Derived.Test.YthfhhkjnmpiieaaKnown
import Derived.Test.YthfhhkjnmpiieaaFrmLight
namespace Go.Proofs.Ythfhhkjnmpiieaa
set_option linter.unusedVariables false
set_option linter.unusedSimpArgs false
open Go.ChangeShapes Go.WideShapes Go.ChangeAt Go.RowKit
set_option maxRecDepth 100000 in
set_option maxHeartbeats 4000000 in
theorem FrameLines_walk {A : Option Addr} {n c : Nat} {fs : List Can.Fr} (W : World) (h : RF W W.heap.size A n c fs) (t : ByteArray) (wt : t.size ≤ maxLen) :
    Calls Try.prog 6 #[.slice A n c, .string t] W fun e w' => e = .returned (.bool true) ∧ Below W.heap.size W w' := by
  obtain ⟨s, rfl⟩ := T_of t
  have hts := T_size s
  have HTS := Lib.hid hts
  go_enter Try.func6, Try.ntmps6
  go_wp2_with fail
  refine (light_any _ h).mono ?_
  rintro e w0 ⟨b, rfl, rfl, hl⟩
  cases b with
  | false =>
    clear hl
    go_wp2_with fail
    refine (known_any _).mono ?_
    rintro e w1 ⟨rfl, b1⟩
    go_wp2_with fail
    go_ret
    exact ⟨rfl, b1⟩
  | true =>
    obtain ⟨hn, _⟩ := hl rfl
    clear hl
    by_cases hbig : 5000 < s.length
    · go_wp2_with fail
      refine (known_any _).mono ?_
      rintro e w1 ⟨rfl, b1⟩
      go_wp2_with fail
      go_ret
      exact ⟨rfl, b1⟩
    have C3 := Lib.hid (fun w => Lines_any s w (by omega))
    have C4 := Lib.hid (fun w => RLines_any s w (by omega))
    generalize Can.linesS s = p at *
    obtain ⟨pl, pe, pk⟩ := p
    go_wp2_with fail
    refine (Text_any _ h (Nat.le_refl _) (by omega)).mono ?_
    rintro e w1 ⟨rfl, b1⟩
    go_wp2_with fail
    refine (RText_any _ (h.below b1) b1.size (by omega)).mono ?_
    rintro e w2 ⟨rfl, b2⟩
    have d2 := below_step b1 b2 (Nat.le_refl _)
    generalize Can.textS fs = x at *
    obtain ⟨x, xe⟩ := x
    go_wp2_with fail
    refine (C3.out _).mono ?_
    rintro e w3 ⟨A3, c3, rfl, o3, b3⟩
    have d3 := below_step d2 b3 (Nat.le_refl _)
    go_wp2_with fail
    refine (C4.out _).mono ?_
    rintro e w4 ⟨A4, c4, rfl, o4, b4⟩
    have d4 := below_step d3 b4 (Nat.le_refl _)
    go_wp2_with fail
    refine (All_any _ (o3.below b4).rf o4.rf (Nat.le_refl _) (Nat.le_refl _)).mono ?_
    rintro e w5 ⟨rfl, b5⟩
    have d5 := below_step d4 b5 (Nat.le_refl _)
    go_wp2_with fail
    refine (known_any _).mono ?_
    rintro e w6 ⟨rfl, b6⟩
    go_wp2_with fail
    go_ret
    exact ⟨rfl, below_step d5 b6 (Nat.le_refl _)⟩
end Go.Proofs.Ythfhhkjnmpiieaa
