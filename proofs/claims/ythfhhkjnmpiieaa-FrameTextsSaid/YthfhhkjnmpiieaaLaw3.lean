/-
  Walk: FrameTexts.
  Conditions: none.
-/
import Derived.Test.YthfhhkjnmpiieaaKnown
namespace Go.Proofs.Ythfhhkjnmpiieaa
set_option linter.unusedVariables false
set_option linter.unusedSimpArgs false
open Go.ChangeShapes Go.WideShapes Go.ChangeAt Go.RowKit
section
variable {i : Int} {r : Bool} {A : Option Addr} {n c : Nat} {l : List UInt8}
set_option maxRecDepth 100000 in
set_option maxHeartbeats 8000000 in
theorem FrameTexts_walk (W : World) (wi : (Lit.int .i64 i).wf = true) (h : RB W W.heap.size A n c l) (t : ByteArray) (wt : t.size ≤ maxLen) :
    Calls Try.prog 3 #[.agg #[.int .i64 i, .bool r, .slice A n c], .string t] W fun e w' => e = .returned (.bool true) ∧ Below W.heap.size W w' := by
  have hn := h.lt
  obtain ⟨s, rfl⟩ := T_of t
  have hts := T_size s
  by_cases h1 : 1000 < n
  · go_enter Try.func3, Try.ntmps3
    go_wp2_with fail
    refine (known_any _).mono ?_
    rintro e w1 ⟨rfl, b1⟩
    go_wp2_with fail
    go_ret
    exact ⟨rfl, below_step (alloc_one _ _) b1 (Nat.le_refl _)⟩
  by_cases h2 : 1000 < s.length
  · have HTS := Lib.hid hts
    go_enter Try.func3, Try.ntmps3
    go_wp2_with fail
    refine (known_any _).mono ?_
    rintro e w1 ⟨rfl, b1⟩
    go_wp2_with fail
    go_ret
    exact ⟨rfl, below_step (alloc_one _ _) b1 (Nat.le_refl _)⟩
  have C1 := Lib.hid (fun (A : Option Addr) (c B : Nat) (w : World) (h : RB w B A n c l) (hB : B ≤ w.heap.size) => Show_any i r w h hB)
  have C2 := Lib.hid (fun (A : Option Addr) (c B : Nat) (w : World) (h : RB w B A n c l) (hB : B ≤ w.heap.size) => RShow_any i r w h hB)
  have C3 := Lib.hid (fun w => Parse_any s w (by omega))
  have C4 := Lib.hid (fun w => RParse_any s w (by omega))
  generalize Can.showS ⟨i, r, l⟩ = x at *
  generalize Can.parseS s = p at *
  obtain ⟨x, xe⟩ := x
  obtain ⟨⟨pi, pr, pd⟩, pe⟩ := p
  dsimp only at C1 C2
  have SR := Lib.hid (Can.sameB_refl ⟨pi, pr, pd⟩)
  go_enter Try.func3, Try.ntmps3
  go_wp2_with fail
  refine (Lent_any _ ((h.alloc (Nat.le_refl _) _).alloc (by simp) _) (by omega) (by simp; omega)).mono ?_
  rintro e w1 ⟨A1, c1, rfl, o1, b1⟩
  have K0 := ((Blk.new W 24 #[.int .i64 i, .bool r, .slice A n c]).alloc (.cells #[.int .i64 i, .bool r, .slice A n c] 24)).later b1
  have K1 := (Blk.new (W.alloc (.cells #[.int .i64 i, .bool r, .slice A n c] 24)) 24 #[.int .i64 i, .bool r, .slice A n c]).later b1
  have D := below_step (alloc_two W _ _) b1 (Nat.le_refl _)
  simp only [World.size_alloc] at K1
  have F0 := K0.three
  have F1 := K1.three
  go_wp2_with fail
  have o2 := o1.far (g := W.heap.size + 1) (by simp) 2 (.slice A1 n c1)
  replace K0 := K0.far (p := ⟨W.heap.size + 1, 2, none⟩) (by simp) (.slice A1 n c1)
  replace K1 := K1.set_ 2 (.slice A1 n c1)
  replace D := D.setCell (p := ⟨W.heap.size + 1, 2, none⟩) (by show W.heap.size ≤ W.heap.size + 1; omega) (.slice A1 n c1)
  have t2 := o2.rb.take (k := n) (by omega)
  rw [take_mark h.len] at t2
  refine (C1.out _ _ _ _ t2 (by simp)).mono ?_
  rintro e w2 ⟨rfl, b2⟩
  replace K0 := K0.later b2
  replace F0 := K0.three
  replace K1 := K1.later b2
  replace F1 := Blk.three K1
  replace D := below_step D b2 (Nat.le_refl _)
  replace o2 := o2.below b2
  clear o1 b1
  go_wp2_with fail
  refine (C2.out _ _ _ _ (h.below D) D.size).mono ?_
  rintro e w3 ⟨rfl, b3⟩
  replace K0 := K0.later b3
  replace F0 := K0.three
  replace K1 := K1.later b3
  replace F1 := Blk.three K1
  replace D := below_step D b3 (Nat.le_refl _)
  replace o2 := o2.below b3
  go_wp2_with fail
  refine (C3.out _).mono ?_
  rintro e w4 ⟨A4, c4, rfl, h4, b4⟩
  replace K0 := K0.later b4
  replace K1 := K1.later b4
  replace D := below_step D b4 (Nat.le_refl _)
  replace o2 := o2.below b4
  clear F0 F1
  go_wp2_with fail
  refine (C4.out _).mono ?_
  rintro e w5 ⟨A5, c5, rfl, h5, b5⟩
  have b4' := below_step (alloc_one w4 _) b5 (Nat.le_refl _)
  have K2 := Blk.made b5
  have F2 := K2.three
  replace h4 := h4.below b4'
  replace K0 := K0.later b4'
  replace F0 := K0.three
  replace K1 := K1.later b4'
  replace F1 := Blk.three K1
  replace D := below_step D b4' (Nat.le_refl _)
  replace o2 := o2.below b4'
  have hlt := K2.lt
  have hlt0 := K0.lt
  have hlt1 := K1.lt
  clear b2 b3 b4 b4' b5
  go_wp2_with fail
  refine (RSame_any pi pr pi pr _ (h4.rb.alloc (Nat.le_refl _) _) (h5.rb.alloc (Nat.le_refl _) _) (by simp) (by simp)).mono ?_
  rintro e w6 ⟨he, b6⟩
  rw [SR.out] at he
  subst he
  have b5' := below_step (alloc_one w5 _) b6 (Nat.le_refl _)
  replace K0 := K0.later b5'
  replace F0 := K0.three
  replace K1 := K1.later b5'
  replace F1 := Blk.three K1
  replace D := below_step D b5' (Nat.le_refl _)
  replace o2 := o2.below b5'
  go_wp2_with fail
  refine (Kept_any _ o2.rb (h.below D)).mono ?_
  rintro e w7 ⟨he, rfl⟩
  have hk : (l == l && (77 : UInt8) == 77) = true := by simp
  rw [hk] at he
  subst he
  go_wp2_with fail
  refine (known_any _).mono ?_
  rintro e w8 ⟨rfl, b8⟩
  go_wp2_with fail
  go_ret
  exact ⟨rfl, below_step D b8 (Nat.le_refl _)⟩
end
end Go.Proofs.Ythfhhkjnmpiieaa
