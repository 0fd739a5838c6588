/-
  Walks: TypesCodes, TypesChecks.
  Conditions: none.
-/
import Derived.Test.YtfmfcgpofkccgaaKnown
import Derived.Test.YtfmfcgpofkccgaaTypChk
import Derived.Test.YtfmfcgpofkccgaaFrame
namespace Go.Proofs.Ytfmfcgpofkccgaa
set_option linter.unusedVariables false
set_option linter.unusedSimpArgs false
open Go.ChangeShapes Go.WideShapes Go.ChangeAt Go.RowKit
set_option maxRecDepth 100000 in
set_option maxHeartbeats 8000000 in
theorem TypesCodes_walk {A : Option Addr} {n c : Nat} {l : List UInt8} (W : World) (t : Int) (wt : (Lit.int .i64 t).wf = true) (z : Int) (wz : (Lit.int .i64 z).wf = true) (hb : RB W W.heap.size A n c l) :
    Calls Try.prog 3 #[.int .i64 t, .int .i64 z, .slice A n c] W fun e w' => e = .returned (.bool true) ∧ Below W.heap.size W w' := by
  obtain ⟨z1, z2⟩ := bounds_i64 wz
  have hn := hb.lt
  by_cases hbig : 10000 < n
  · go_enter Try.func3, Try.ntmps3
    go_wp2_with fail
    refine (known05_any _).mono ?_
    rintro e w2 ⟨rfl, b2⟩
    go_wp2_with fail
    go_ret
    exact ⟨rfl, b2⟩
  · have E1 := Encode_any t z W z1 (by omega)
    have E2 := fun w => REncode_any t z w z1 (by omega)
    have D1 := fun (w1 : World) (h : Below W.heap.size W w1) => Decode_any t w1 (hb.below h) h.size
    have D2 := fun (w1 : World) (h : Below W.heap.size W w1) => RDecode_any t w1 (hb.below h)
    generalize Ty.encS t z = en at *
    obtain ⟨ev, ee⟩ := en
    generalize Ty.decS t l = d at *
    obtain ⟨dv, de⟩ := d
    dsimp only at D1 D2
    replace E1 := Lib.hid E1; replace E2 := Lib.hid E2; replace D1 := Lib.hid D1; replace D2 := Lib.hid D2
    go_enter Try.func3, Try.ntmps3
    go_wp2_with fail
    refine (E1.out).mono ?_
    rintro e w1 ⟨A1, c1, rfl, o1, b1⟩
    dsimp only at o1
    go_wp2_with fail
    refine (E2.out _).mono ?_
    rintro e w2 ⟨A2, c2, rfl, o2, b2⟩
    dsimp only at o2
    have d2 := below_step b1 b2 (Nat.le_refl _)
    go_wp2_with fail
    refine (D1.out _ d2).mono ?_
    rintro e w3 ⟨rfl, b3⟩
    have d3 := below_step d2 b3 (Nat.le_refl _)
    go_wp2_with fail
    refine (D2.out _ d3).mono ?_
    rintro e _ ⟨rfl, rfl⟩
    have e1 := convb ((o1.below b2).below b3).rb
    have e2 := convb (o2.below b3).rb
    clear o1 o2
    go_wp2_with fail
    refine (known05_any _).mono ?_
    rintro e w8 ⟨rfl, b8⟩
    go_wp2_with fail
    go_ret
    exact ⟨rfl, below_step d3 b8 (Nat.le_refl _)⟩
set_option maxRecDepth 100000 in
set_option maxHeartbeats 8000000 in
theorem TypesChecks_walk {A : Option Addr} {n c : Nat} {l : List UInt8} (W : World) (t : Int) (wt : (Lit.int .i64 t).wf = true) (z : Int) (wz : (Lit.int .i64 z).wf = true) (hb : RB W W.heap.size A n c l) :
    Calls Try.prog 4 #[.int .i64 t, .int .i64 z, .slice A n c] W fun e w' => e = .returned (.bool true) ∧ Below W.heap.size W w' := by
  have hn := hb.lt
  have HL := Lib.hid hb.len
  by_cases hbig : 10000 < n
  · go_enter Try.func4, Try.ntmps4
    go_wp2_with fail
    refine (known05_any _).mono ?_
    rintro e w2 ⟨rfl, b2⟩
    go_wp2_with fail
    go_ret
    exact ⟨rfl, b2⟩
  · have L := Lib.hid (Lent_any W hb (by omega) (Nat.le_refl _))
    have C1 := fun (A : Option Addr) (n c B : Nat) (w1 : World) (h : RB w1 B A n c l) (hB : B ≤ w1.heap.size) => Check_any t z w1 h hB
    have C2 := fun (w1 : World) (h : Below W.heap.size W w1) => RCheckT_any t z w1 (hb.below h)
    generalize Ty.checkS t z l = ck at *
    replace C1 := Lib.hid C1; replace C2 := Lib.hid C2
    go_enter Try.func4, Try.ntmps4
    go_wp2_with fail
    refine (L.out).mono ?_
    rintro e w1 ⟨A1, c1, rfl, o1, b1⟩
    have htk : (l ++ [(77 : UInt8)]).take n = l := take_mark HL.out
    have r1 := o1.rb.take (k := n) (by omega)
    rw [htk] at r1
    have C3 := Lib.hid (C1.out _ _ _ _ w1 r1 (Nat.le_refl _))
    clear htk r1
    go_wp2_with fail
    refine (C3.out).mono ?_
    rintro e w2 ⟨rfl, b2⟩
    have d2 := below_step b1 b2 (Nat.le_refl _)
    go_wp2_with fail
    refine (C2.out _ d2).mono ?_
    rintro e _ ⟨rfl, rfl⟩
    have KE := Kept_any _ (o1.below b2).rb (hb.below d2)
    have hll : (l == l && (77 : UInt8) == 77) = true := by simp
    rw [hll] at KE
    replace KE := Lib.hid KE
    clear hll o1
    go_wp2_with fail
    refine (KE.out).mono ?_
    rintro e _ ⟨rfl, rfl⟩
    go_wp2_with fail
    refine (known05_any _).mono ?_
    rintro e w8 ⟨rfl, b8⟩
    go_wp2_with fail
    go_ret
    exact ⟨rfl, below_step d2 b8 (Nat.le_refl _)⟩
end Go.Proofs.Ytfmfcgpofkccgaa
