/-
  Walk: LexBack.
  Conditions: none.
-/
import Derived.Test.YtnppihlalhaldaaKnown
import Derived.Test.YtnppihlalhaldaaLexPl
namespace Go.Proofs.Ytnppihlalhaldaa
set_option linter.unusedVariables false
set_option linter.unusedSimpArgs false
open Go.RowKit
set_option maxRecDepth 100000 in
set_option maxHeartbeats 4000000 in
theorem LexBack_walk (W : World) (s0 : ByteArray) (ws : s0.size ≤ maxLen) : Calls Try.prog 7 #[.string s0] W fun e w' => e = .returned (.bool true) ∧ Below W.heap.size W w' := by
  obtain ⟨s, rfl⟩ := T_of s0
  have hT := T_size s
  by_cases hbig : 4000 < s.length
  · go_enter Try.func7, Try.ntmps7
    go_wp2_with fail
    refine (known16_any _).mono ?_
    rintro e w8 ⟨rfl, b8⟩
    go_wp2_with fail
    go_ret
    exact ⟨rfl, b8⟩
  have S := fun w => Scan_any s w (by omega)
  rcases Lx.scan_cases (s := s) (by omega) with ⟨ts, h1, h2, h3⟩ | ⟨x, q, h1, h2, h3⟩
  · obtain ⟨hl, us, u1, u2, u3⟩ := Lx.scan_back (by omega) h1
    have hc := Lx.same_count u2
    rw [h1] at S
    have S2 := fun w => Scan_any (Lx.textS ts) w (by omega)
    rw [u1] at S2
    have X1 := fun (w : World) (B : Nat) (A : Option Addr) (c : Nat) (h : RTf w B A ts.length c ts) (hB : B ≤ w.heap.size) => Text_any w h (by omega) (by omega) hB
    have X2 := fun (w : World) (B : Nat) (A : Option Addr) (c : Nat) (h : RTf w B A us.length c us) (hB : B ≤ w.heap.size) => Text_any w h (by rw [u3]; omega) (by omega) hB
    have M := fun (w : World) (A A1 : Option Addr) (B B1 c c1 : Nat) (h : RTf w B A ts.length c ts) (h1 : RTf w B1 A1 us.length c1 us) => RSameF_any w h h1
    rw [u2] at M
    rw [u3] at X2
    have ht := T_toList (Lx.textS ts)
    generalize Lx.textS ts = txt at *
    replace S := Lib.hid S; replace S2 := Lib.hid S2; replace X1 := Lib.hid X1; replace X2 := Lib.hid X2; replace M := Lib.hid M
    clear h1 h2 h3 u1 u2 u3 hc
    go_enter Try.func7, Try.ntmps7
    go_wp2_with fail
    refine (S.out _).mono ?_
    rintro e w1 ⟨A1, c1, rfl, o1, b1⟩
    dsimp only at o1
    go_wp2_with fail
    refine (X1.out _ _ _ _ o1.rs.rf (Nat.le_refl _)).mono ?_
    rintro e w2 ⟨rfl, b2⟩
    have d2 := below_step b1 b2 (Nat.le_refl _)
    go_wp2_with fail
    refine (S2.out _).mono ?_
    rintro e w3 ⟨A3, c3, rfl, o3, b3⟩
    dsimp only at o3
    have d3 := below_step d2 b3 (Nat.le_refl _)
    have o1' := (o1.below b2).below b3
    go_wp2_with fail
    refine (M.out _ _ _ _ _ _ _ o1'.rs.rf o3.rs.rf).mono ?_
    rintro e w4 h4
    obtain ⟨rfl, d, rfl⟩ := h4
    have b4 : Below w3.heap.size w3 (w3.drewN d) := below_drewN (Below.refl _ _) d
    have d4 := below_step d3 b4 (Nat.le_refl _)
    have o4 := o3.below b4
    generalize w3.drewN d = w4 at *
    clear o1 o1' o3
    go_wp2_with fail
    refine (X2.out _ _ _ _ o4.rs.rf (Nat.le_refl _)).mono ?_
    rintro e w5 ⟨rfl, b5⟩
    have d5 := below_step d4 b5 (Nat.le_refl _)
    go_wp2_with fail
    refine (known16_any _).mono ?_
    rintro e w8 ⟨rfl, b8⟩
    go_wp2_with fail
    go_ret
    exact ⟨rfl, below_step d5 b8 (Nat.le_refl _)⟩
  · rw [h1] at S
    have hx : (x != 0) = true := by simpa using h2
    replace S := Lib.hid S
    clear h1 h2 h3
    go_enter Try.func7, Try.ntmps7
    go_wp2_with fail
    refine (S.out _).mono ?_
    rintro e w1 ⟨A1, c1, rfl, o1, b1⟩
    dsimp only [List.length_nil] at o1
    go_wp2_with fail
    refine (known16_any _).mono ?_
    rintro e w8 ⟨rfl, b8⟩
    go_wp2_with fail
    go_ret
    exact ⟨rfl, below_step b1 b8 (Nat.le_refl _)⟩
end Go.Proofs.Ytnppihlalhaldaa
