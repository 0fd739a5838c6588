/-
  Walk: OctetTexts.
  Conditions: none.
-/
import Derived.Test.YtnhlhhcijgplcaaKnown
import Derived.Test.YtnhlhhcijgplcaaFrame
namespace Go.Proofs.Ytnhlhhcijgplcaa
set_option linter.unusedVariables false
set_option linter.unusedSimpArgs false
open Go.ChangeShapes Go.WideShapes Go.ChangeAt Go.RowKit
set_option maxHeartbeats 2000000 in
theorem OctetTexts_walk {A : Option Addr} {n c : Nat} {l : List UInt8} (W : World) (h : RB W W.heap.size A n c l) (t : ByteArray) (wt : t.size ≤ maxLen) :
    Calls Try.prog 4 #[.slice A n c, .string t] W fun e w' => e = .returned (.bool true) ∧ Below W.heap.size W w' := by
  have hlen := h.len
  obtain ⟨s, hst⟩ : ∃ s : List UInt8, t = ⟨s.toArray⟩ := ⟨t.data.toList, by cases t; simp⟩
  have hts : t.size = s.length := by rw [hst]; show s.toArray.size = _; simp
  generalize hm : s.length = m at *
  by_cases hbig : 16384 < n
  · clear hst hm
    go_enter Try.func4, Try.ntmps4
    go_wp2_with fail
    refine (known_any _).mono ?_
    rintro e w1 ⟨rfl, hb1⟩
    go_wp2_with fail
    go_ret
    exact ⟨rfl, hb1⟩
  by_cases hbig2 : 16384 < m
  · clear hst hm
    go_enter Try.func4, Try.ntmps4
    go_wp2_with fail
    refine (known_any _).mono ?_
    rintro e w1 ⟨rfl, hb1⟩
    go_wp2_with fail
    go_ret
    exact ⟨rfl, hb1⟩
  have c1 := fun (A : Option Addr) (c B : Nat) (w : World) (hb : RB w B A n c l) (hB : B ≤ w.heap.size) => Hex_any w hb (by omega) hB
  have c2 := fun (A : Option Addr) (c B : Nat) (w : World) (hb : RB w B A n c l) => RHex_any w hb (by omega)
  have c3 := fun w => Unhex_any s w (by omega)
  have c4 := fun w => RUnhex_any s w (by omega)
  have c5 := fun w => Unhex_any (Oct.hexS l) w (by rw [Oct.hexS_length]; omega)
  have e5 : Oct.unhexS (Oct.hexS l) = (l, 0) := by rw [Oct.unhexS, Oct.pairs_hex]
  rw [e5] at c5
  rw [← hst] at c3 c4
  generalize (⟨(Oct.hexS l).toArray⟩ : ByteArray) = u at *
  cases hp : Oct.pairs s with
  | none =>
    have e3 : Oct.unhexS s = ([], 4) := by rw [Oct.unhexS, hp]
    rw [e3] at c3 c4
    have C1 := Lib.hid c1; have C2 := Lib.hid c2; have C3 := Lib.hid c3; have C4 := Lib.hid c4; have C5 := Lib.hid c5
    clear c1 c2 c3 c4 c5 e3 e5 hp hst hm
    go_enter Try.func4, Try.ntmps4
    go_wp2_with fail
    refine (C1.out _ _ _ _ h (Nat.le_refl _)).mono ?_
    rintro e w1 ⟨rfl, b1⟩
    go_wp2_with fail
    refine (C3.out _).mono ?_
    rintro e w2 ⟨A2, c2, rfl, h2, hb2⟩
    have b2 := below_step b1 hb2 (Nat.le_refl _)
    go_wp2_with fail
    refine (C4.out _).mono ?_
    rintro e w3 ⟨A3, c3, rfl, h3, hb3⟩
    have b3 := below_step b2 hb3 (Nat.le_refl _)
    go_wp2_with fail
    refine (C5.out _).mono ?_
    rintro e w4 ⟨A4, c4, rfl, h4, hb4⟩
    have b4 := below_step b3 hb4 (Nat.le_refl _)
    go_wp2_with fail
    refine (C2.out _ _ _ _ (h.below b4)).mono ?_
    rintro e w5 ⟨rfl, hb5⟩
    have b5 := below_step b4 hb5 (Nat.le_refl _)
    have g2 : OB w5 _ A2 0 c2 [] := ((h2.below hb3).below hb4).below hb5
    have g3 : OB w5 _ A3 0 c3 [] := (h3.below hb4).below hb5
    have g4 : OB w5 _ A4 l.length c4 l := h4.below hb5
    rw [hlen] at g4
    have e2 := convb g2.rb
    have e3 := convb g3.rb
    have e4 := convb g4.rb
    have e0 := convb (h.below b5)
    go_wp2_with fail
    refine (known_any _).mono ?_
    rintro e w6 ⟨rfl, hb6⟩
    go_wp2_with fail
    go_ret
    exact ⟨rfl, below_step b5 hb6 (Nat.le_refl _)⟩
  | some p =>
    have e3 : Oct.unhexS s = (p, 0) := by rw [Oct.unhexS, hp]
    have hpl := Oct.pairs_length _ _ hp
    have c6 := fun (A : Option Addr) (c B : Nat) (w : World) (hb : RB w B A p.length c p) (hB : B ≤ w.heap.size) => Hex_any w hb (by omega) hB
    rw [Oct.hex_pairs _ _ hp, ← hst] at c6
    rw [e3] at c3 c4
    have C1 := Lib.hid c1; have C2 := Lib.hid c2; have C3 := Lib.hid c3; have C4 := Lib.hid c4; have C5 := Lib.hid c5; have C6 := Lib.hid c6
    clear c1 c2 c3 c4 c5 c6 e3 e5 hp hst hm
    go_enter Try.func4, Try.ntmps4
    go_wp2_with fail
    refine (C1.out _ _ _ _ h (Nat.le_refl _)).mono ?_
    rintro e w1 ⟨rfl, b1⟩
    go_wp2_with fail
    refine (C3.out _).mono ?_
    rintro e w2 ⟨A2, c2, rfl, h2, hb2⟩
    have b2 := below_step b1 hb2 (Nat.le_refl _)
    go_wp2_with fail
    refine (C4.out _).mono ?_
    rintro e w3 ⟨A3, c3, rfl, h3, hb3⟩
    have b3 := below_step b2 hb3 (Nat.le_refl _)
    go_wp2_with fail
    refine (C5.out _).mono ?_
    rintro e w4 ⟨A4, c4, rfl, h4, hb4⟩
    have b4 := below_step b3 hb4 (Nat.le_refl _)
    go_wp2_with fail
    refine (C2.out _ _ _ _ (h.below b4)).mono ?_
    rintro e w5 ⟨rfl, hb5⟩
    have b5 := below_step b4 hb5 (Nat.le_refl _)
    have g2 : OB w5 _ A2 p.length c2 p := ((h2.below hb3).below hb4).below hb5
    have g3 : OB w5 _ A3 p.length c3 p := (h3.below hb4).below hb5
    have g4 : OB w5 _ A4 l.length c4 l := h4.below hb5
    rw [hlen] at g4
    have e2 := convb g2.rb
    have e3 := convb g3.rb
    have e4 := convb g4.rb
    have e0 := convb (h.below b5)
    go_wp2_with fail
    refine (C6.out _ _ _ _ g2.rb (Nat.le_refl _)).mono ?_
    rintro e w6 ⟨rfl, hb6⟩
    have b6 := below_step b5 hb6 (Nat.le_refl _)
    go_wp2_with fail
    refine (known_any _).mono ?_
    rintro e w7 ⟨rfl, hb7⟩
    go_wp2_with fail
    go_ret
    exact ⟨rfl, below_step b6 hb7 (Nat.le_refl _)⟩
end Go.Proofs.Ytnhlhhcijgplcaa
