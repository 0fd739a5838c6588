/-
  Walk: TypesBack.
  Conditions: none.
-/
import Derived.Test.YtfmfcgpofkccgaaKnown
import Derived.Test.YtfmfcgpofkccgaaTypLaws
import Derived.Test.YtfmfcgpofkccgaaTypLim
import Derived.Test.YtfmfcgpofkccgaaFrame
namespace Go.Proofs.Ytfmfcgpofkccgaa
set_option linter.unusedVariables false
set_option linter.unusedSimpArgs false
open Go.ChangeShapes Go.WideShapes Go.ChangeAt Go.RowKit
set_option maxRecDepth 100000 in
set_option maxHeartbeats 8000000 in
theorem TypesBack_walk {A : Option Addr} {n c : Nat} {l : List UInt8} (W : World) (t : Int) (wt : (Lit.int .i64 t).wf = true) (z : Int) (wz : (Lit.int .i64 z).wf = true) (hb : RB W W.heap.size A n c l) :
    Calls Try.prog 6 #[.int .i64 t, .int .i64 z, .slice A n c] W fun e w' => e = .returned (.bool true) ∧ Below W.heap.size W w' := by
  obtain ⟨z1, z2⟩ := bounds_i64 wz
  have hn := hb.lt
  by_cases hbig : 10000 < n
  · go_enter Try.func6, Try.ntmps6
    go_wp2_with fail
    refine (known05_any _).mono ?_
    rintro e w2 ⟨rfl, b2⟩
    go_wp2_with fail
    go_ret
    exact ⟨rfl, b2⟩
  · have E1 := Encode_any t z W z1 (by omega)
    have D := fun (w1 : World) (h : Below W.heap.size W w1) => Decode_any t w1 (hb.below h) h.size
    have hdr := dec_range t l
    have hde := enc_dec (t := t) (b := l) (m := (Ty.decS t l).1)
    have E := fun w => Encode_any t (Ty.decS t l).1 w (by omega) (by omega)
    have h1 := dec_enc (t := t) (n := z) (x := (Ty.encS t z).1)
    generalize hen : Ty.encS t z = en at *
    obtain ⟨ev, ee⟩ := en
    generalize hdd : Ty.decS t l = d at *
    obtain ⟨dv, de⟩ := d
    dsimp only at hde E h1 hdr
    generalize hed : Ty.encS t dv = ed at *
    have HB0 : Hid (Below W.heap.size W W) := Lib.hid (Below.refl _ _)
    replace E1 := Lib.hid E1; replace D := Lib.hid D; replace E := Lib.hid E
    by_cases hee : ee = 0
    · subst hee
      obtain ⟨g1, g2, g3, g4, g5⟩ := h1 rfl
      have D2 := fun (A : Option Addr) (c B : Nat) (w1 : World) (h : RB w1 B A ev.length c ev) (hB : B ≤ w1.heap.size) => Decode_any t w1 h hB
      rw [g1] at D2
      have L := fun w => Limits_any t w
      have S := fun w => TSize_any t w
      generalize Ty.limS t = lm at *
      obtain ⟨lo, hi, ok⟩ := lm
      dsimp only at g3 g4 g5
      subst g3
      generalize (Ty.kd t).size = sz at *
      subst g2
      replace D2 := Lib.hid D2; replace L := Lib.hid L; replace S := Lib.hid S
      by_cases hdz : de = 0
      · subst hdz
        have hde' := hde rfl
        subst hde'
        clear hde hdr hen hdd hed g1 h1
        go_enter Try.func6, Try.ntmps6
        go_wp2_with fail
        refine (E1.out).mono ?_
        rintro e w1 ⟨A1, c1, rfl, o1, b1⟩
        dsimp only at o1
        have D3 := Lib.hid (D2.out _ _ _ w1 o1.rb (Nat.le_refl _))
        clear o1
        go_wp2_with fail
        refine (D3.out).mono ?_
        rintro e wa ⟨rfl, ba⟩
        have da := below_step b1 ba (Nat.le_refl _)
        go_wp2_with fail
        refine (L.out _).mono ?_
        rintro e wb ⟨rfl, bb⟩
        have db := below_step da bb (Nat.le_refl _)
        go_wp2_with fail
        refine (S.out _).mono ?_
        rintro e w2 ⟨rfl, b2⟩
        have d2 := below_step db b2 (Nat.le_refl _)
        go_wp2_with fail
        refine (D.out _ d2).mono ?_
        rintro e w3 ⟨rfl, b3⟩
        have d3 := below_step (d2) b3 (Nat.le_refl _)
        go_wp2_with fail
        refine (E.out _).mono ?_
        rintro e w4 ⟨A4, c4, rfl, o4, b4⟩
        dsimp only at o4
        have d4 := below_step d3 b4 (Nat.le_refl _)
        have e1 := convb o4.rb
        have e2 := convb (hb.below d4)
        clear o4
        go_wp2_with fail
        refine (known05_any _).mono ?_
        rintro e w8 ⟨rfl, b8⟩
        go_wp2_with fail
        go_ret
        exact ⟨rfl, below_step d4 b8 (Nat.le_refl _)⟩
      · have hx : (de == 0) = false := by rw [beq_eq_false_iff_ne]; exact hdz
        clear hde hdr hen hdd hed g1 h1 hdz
        go_enter Try.func6, Try.ntmps6
        go_wp2_with fail
        refine (E1.out).mono ?_
        rintro e w1 ⟨A1, c1, rfl, o1, b1⟩
        dsimp only at o1
        have D3 := Lib.hid (D2.out _ _ _ w1 o1.rb (Nat.le_refl _))
        clear o1
        go_wp2_with fail
        refine (D3.out).mono ?_
        rintro e wa ⟨rfl, ba⟩
        have da := below_step b1 ba (Nat.le_refl _)
        go_wp2_with fail
        refine (L.out _).mono ?_
        rintro e wb ⟨rfl, bb⟩
        have db := below_step da bb (Nat.le_refl _)
        go_wp2_with fail
        refine (S.out _).mono ?_
        rintro e w2 ⟨rfl, b2⟩
        have d2 := below_step db b2 (Nat.le_refl _)
        go_wp2_with fail
        refine (D.out _ d2).mono ?_
        rintro e w3 ⟨rfl, b3⟩
        have d3 := below_step (d2) b3 (Nat.le_refl _)
        go_wp2_with fail
        refine (known05_any _).mono ?_
        rintro e w8 ⟨rfl, b8⟩
        go_wp2_with fail
        go_ret
        exact ⟨rfl, below_step d3 b8 (Nat.le_refl _)⟩
    · have hy : (ee == 0) = false := by rw [beq_eq_false_iff_ne]; exact hee
      clear hee h1
      by_cases hdz : de = 0
      · subst hdz
        have hde' := hde rfl
        subst hde'
        clear hde hdr hen hdd hed
        go_enter Try.func6, Try.ntmps6
        go_wp2_with fail
        refine (E1.out).mono ?_
        rintro e w2 ⟨A1, c1, rfl, o1, d2⟩
        clear o1
        go_wp2_with fail
        refine (D.out _ d2).mono ?_
        rintro e w3 ⟨rfl, b3⟩
        have d3 := below_step (d2) b3 (Nat.le_refl _)
        go_wp2_with fail
        refine (E.out _).mono ?_
        rintro e w4 ⟨A4, c4, rfl, o4, b4⟩
        dsimp only at o4
        have d4 := below_step d3 b4 (Nat.le_refl _)
        have e1 := convb o4.rb
        have e2 := convb (hb.below d4)
        clear o4
        go_wp2_with fail
        refine (known05_any _).mono ?_
        rintro e w8 ⟨rfl, b8⟩
        go_wp2_with fail
        go_ret
        exact ⟨rfl, below_step d4 b8 (Nat.le_refl _)⟩
      · have hx : (de == 0) = false := by rw [beq_eq_false_iff_ne]; exact hdz
        clear hde hdr hen hdd hed hdz
        go_enter Try.func6, Try.ntmps6
        go_wp2_with fail
        refine (E1.out).mono ?_
        rintro e w2 ⟨A1, c1, rfl, o1, d2⟩
        clear o1
        go_wp2_with fail
        refine (D.out _ d2).mono ?_
        rintro e w3 ⟨rfl, b3⟩
        have d3 := below_step (d2) b3 (Nat.le_refl _)
        go_wp2_with fail
        refine (known05_any _).mono ?_
        rintro e w8 ⟨rfl, b8⟩
        go_wp2_with fail
        go_ret
        exact ⟨rfl, below_step d3 b8 (Nat.le_refl _)⟩
end Go.Proofs.Ytfmfcgpofkccgaa
