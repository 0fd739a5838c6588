/-
  Walk: TypesAgain.
  Conditions: none.
-/
import Derived.Test.YtfmfcgpofkccgaaKnown
import Derived.Test.YtfmfcgpofkccgaaTypLaws
import Derived.Test.YtfmfcgpofkccgaaFrame
namespace Go.Proofs.Ytfmfcgpofkccgaa
set_option linter.unusedVariables false
set_option linter.unusedSimpArgs false
open Go.ChangeShapes Go.WideShapes Go.ChangeAt Go.RowKit
set_option maxRecDepth 100000 in
set_option maxHeartbeats 8000000 in
theorem TypesAgain_walk {A : Option Addr} {n c : Nat} {l : List UInt8} (W : World) (t : Int) (wt : (Lit.int .i64 t).wf = true) (hb : RB W W.heap.size A n c l) (s0 : ByteArray) (ws : s0.size ≤ maxLen) :
    Calls Try.prog 7 #[.int .i64 t, .slice A n c, .string s0] W fun e w' => e = .returned (.bool true) ∧ Below W.heap.size W w' := by
  obtain ⟨s, rfl⟩ := T_of s0
  have hT := T_size s
  rw [hT] at ws
  have hn := hb.lt
  by_cases hbig : 10000 < n
  · go_enter Try.func7, Try.ntmps7
    go_wp2_with fail
    refine (known05_any _).mono ?_
    rintro e w2 ⟨rfl, b2⟩
    go_wp2_with fail
    go_ret
    exact ⟨rfl, b2⟩
  by_cases hbig2 : 2000 < s.length
  · go_enter Try.func7, Try.ntmps7
    go_wp2_with fail
    refine (known05_any _).mono ?_
    rintro e w2 ⟨rfl, b2⟩
    go_wp2_with fail
    go_ret
    exact ⟨rfl, b2⟩
  · have S1 := Show_anyT t W hb (Nat.le_refl _)
    have P := fun w => Parse_anyT t s w (by omega)
    have hps := parse_show (t := t) (b := l) (x := (Ty.showS t l).1)
    have hsl := show_len (t := t) (b := l)
    have hsp := show_parse (t := t) (s := s) (y := (Ty.parseS t s).1)
    generalize hen : Ty.showS t l = en at *
    obtain ⟨xv, xe⟩ := en
    generalize hdd : Ty.parseS t s = d at *
    obtain ⟨yv, ye⟩ := d
    dsimp only at hps hsl hsp
    replace S1 := Lib.hid S1; replace P := Lib.hid P
    by_cases hxe : xe = 0
    · subst hxe
      have h1 := hps rfl
      have P1 := fun w => Parse_anyT t xv w (by omega)
      rw [h1] at P1
      replace P1 := Lib.hid P1
      clear hps h1 hen
      by_cases hye : ye = 0
      · subst hye
        obtain ⟨h2, h3⟩ := hsp rfl
        have S2 := fun (A : Option Addr) (c B : Nat) (w1 : World) (h : RB w1 B A yv.length c yv) (hB : B ≤ w1.heap.size) => Show_anyT t w1 h hB
        have C2 := fun (A : Option Addr) (c B : Nat) (w1 : World) (h : RB w1 B A yv.length c yv) (hB : B ≤ w1.heap.size) => Check_any t 256 w1 h hB
        rw [h2] at S2
        rw [h3] at C2
        replace S2 := Lib.hid S2; replace C2 := Lib.hid C2
        clear hsp h2 h3 hdd
        go_enter Try.func7, Try.ntmps7
        go_wp2_with fail
        refine (S1.out).mono ?_
        rintro e w1 ⟨rfl, b1⟩
        go_wp2_with fail
        refine (P1.out _).mono ?_
        rintro e w2 ⟨A2, c2, rfl, o2, b2⟩
        dsimp only at o2
        have d2 := below_step b1 b2 (Nat.le_refl _)
        have e1 := convb o2.rb
        have e2 := convb (hb.below d2)
        clear o2
        go_wp2_with fail
        refine (P.out _).mono ?_
        rintro e w3 ⟨A3, c3, rfl, o3, b3⟩
        dsimp only at o3
        have d3 := below_step d2 b3 (Nat.le_refl _)
        have S3 := Lib.hid (S2.out _ _ _ w3 o3.rb (Nat.le_refl _))
        go_wp2_with fail
        refine (S3.out).mono ?_
        rintro e w4 ⟨rfl, b4⟩
        have d4 := below_step d3 b4 (Nat.le_refl _)
        have C3 := Lib.hid (C2.out _ _ _ w4 (o3.below b4).rb (Nat.le_refl _))
        clear o3
        go_wp2_with fail
        refine (C3.out).mono ?_
        rintro e w5 ⟨rfl, b5⟩
        have d5 := below_step d4 b5 (Nat.le_refl _)
        go_wp2_with fail
        refine (known05_any _).mono ?_
        rintro e w8 ⟨rfl, b8⟩
        go_wp2_with fail
        go_ret
        exact ⟨rfl, below_step d5 b8 (Nat.le_refl _)⟩
      · have hx : (ye == 0) = false := by rw [beq_eq_false_iff_ne]; exact hye
        clear hye hsp hdd
        go_enter Try.func7, Try.ntmps7
        go_wp2_with fail
        refine (S1.out).mono ?_
        rintro e w1 ⟨rfl, b1⟩
        go_wp2_with fail
        refine (P1.out _).mono ?_
        rintro e w2 ⟨A2, c2, rfl, o2, b2⟩
        dsimp only at o2
        have d2 := below_step b1 b2 (Nat.le_refl _)
        have e1 := convb o2.rb
        have e2 := convb (hb.below d2)
        clear o2
        go_wp2_with fail
        refine (P.out _).mono ?_
        rintro e w3 ⟨A3, c3, rfl, o3, b3⟩
        have d3 := below_step d2 b3 (Nat.le_refl _)
        clear o3
        go_wp2_with fail
        refine (known05_any _).mono ?_
        rintro e w8 ⟨rfl, b8⟩
        go_wp2_with fail
        go_ret
        exact ⟨rfl, below_step d3 b8 (Nat.le_refl _)⟩
    · have hy : (xe == 0) = false := by rw [beq_eq_false_iff_ne]; exact hxe
      clear hxe hps hen
      by_cases hye : ye = 0
      · subst hye
        obtain ⟨h2, h3⟩ := hsp rfl
        have S2 := fun (A : Option Addr) (c B : Nat) (w1 : World) (h : RB w1 B A yv.length c yv) (hB : B ≤ w1.heap.size) => Show_anyT t w1 h hB
        have C2 := fun (A : Option Addr) (c B : Nat) (w1 : World) (h : RB w1 B A yv.length c yv) (hB : B ≤ w1.heap.size) => Check_any t 256 w1 h hB
        rw [h2] at S2
        rw [h3] at C2
        replace S2 := Lib.hid S2; replace C2 := Lib.hid C2
        clear hsp h2 h3 hdd
        go_enter Try.func7, Try.ntmps7
        go_wp2_with fail
        refine (S1.out).mono ?_
        rintro e w2 ⟨rfl, d2⟩
        go_wp2_with fail
        refine (P.out _).mono ?_
        rintro e w3 ⟨A3, c3, rfl, o3, b3⟩
        dsimp only at o3
        have d3 := below_step d2 b3 (Nat.le_refl _)
        have S3 := Lib.hid (S2.out _ _ _ w3 o3.rb (Nat.le_refl _))
        go_wp2_with fail
        refine (S3.out).mono ?_
        rintro e w4 ⟨rfl, b4⟩
        have d4 := below_step d3 b4 (Nat.le_refl _)
        have C3 := Lib.hid (C2.out _ _ _ w4 (o3.below b4).rb (Nat.le_refl _))
        clear o3
        go_wp2_with fail
        refine (C3.out).mono ?_
        rintro e w5 ⟨rfl, b5⟩
        have d5 := below_step d4 b5 (Nat.le_refl _)
        go_wp2_with fail
        refine (known05_any _).mono ?_
        rintro e w8 ⟨rfl, b8⟩
        go_wp2_with fail
        go_ret
        exact ⟨rfl, below_step d5 b8 (Nat.le_refl _)⟩
      · have hx : (ye == 0) = false := by rw [beq_eq_false_iff_ne]; exact hye
        clear hye hsp hdd
        go_enter Try.func7, Try.ntmps7
        go_wp2_with fail
        refine (S1.out).mono ?_
        rintro e w2 ⟨rfl, d2⟩
        go_wp2_with fail
        refine (P.out _).mono ?_
        rintro e w3 ⟨A3, c3, rfl, o3, b3⟩
        have d3 := below_step d2 b3 (Nat.le_refl _)
        clear o3
        go_wp2_with fail
        refine (known05_any _).mono ?_
        rintro e w8 ⟨rfl, b8⟩
        go_wp2_with fail
        go_ret
        exact ⟨rfl, below_step d3 b8 (Nat.le_refl _)⟩
end Go.Proofs.Ytfmfcgpofkccgaa
