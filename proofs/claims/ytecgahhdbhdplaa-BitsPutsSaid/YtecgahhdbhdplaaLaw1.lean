/-
  Walk: BitsPuts.
  Conditions: none.
-/
import Derived.Test.YtecgahhdbhdplaaBitAny
import Derived.Test.YtecgahhdbhdplaaBitKnown
import Derived.Test.YtecgahhdbhdplaaBitOpen
import Derived.Test.YtecgahhdbhdplaaFrame
namespace Go.Proofs.Ytecgahhdbhdplaa
set_option linter.unusedVariables false
set_option linter.unusedSimpArgs false
open Go.ChangeShapes Go.WideShapes Go.ChangeAt Go.RowKit
theorem putS_len (l : List UInt8) (p m : Int) (v : Nat) : (Bt.putS l p m v).1.length ≤ l.length := by
  unfold Bt.putS
  split
  · simp
  · split
    · simp
    · split
      · simp [Bt.putF_length]
      · simp
set_option maxRecDepth 100000 in
set_option maxHeartbeats 4000000 in
theorem BitsPuts_walk {A : Option Addr} {n c : Nat} {l : List UInt8} (W : World) (p m : Int) (u : Nat) (hb : RB W W.heap.size A n c l) (wp : (Lit.int .i64 p).wf = true) (wm : (Lit.int .i64 m).wf = true) (hu : u < 18446744073709551616) :
    Calls Try.prog 3 #[.agg #[.slice A n c, .int .i64 p, .int .i64 m, .int .u64 (u : Int)]] W fun e w' => e = .returned (.bool true) ∧ Below W.heap.size W w' := by
  obtain ⟨p1, p2⟩ := bounds_i64 wp
  obtain ⟨m1, m2⟩ := bounds_i64 wm
  have hl := hb.len
  have b0 := alloc_one W (.cells #[.slice A n c, .int .i64 p, .int .i64 m, .int .u64 (u : Int)] 25)
  have K0 := Blk.new W 25 #[.slice A n c, .int .i64 p, .int .i64 m, .int .u64 (u : Int)]
  have F0 := K0.four
  have hn := hb.lt
  by_cases h5 : 5000 < n
  · go_enter Try.func3, Try.ntmps3
    go_wp2_with fail
    refine (known29_any _).mono ?_
    rintro e w2 ⟨rfl, b2⟩
    go_wp2_with fail
    go_ret
    exact ⟨rfl, below_step b0 b2 (Nat.le_refl _)⟩
  · have L := Lent_any _ (hb.below b0) (by omega) b0.size
    replace L := Lib.hid L
    have HL := Lib.hid hl; clear hl
    go_enter Try.func3, Try.ntmps3
    go_wp2_with fail
    refine (L.out).mono ?_
    rintro e w1 ⟨A1, c1, rfl, o1, b1⟩
    have d1 := below_step b0 b1 (Nat.le_refl _)
    have K1 := K0.later b1
    have F1 := K1.four
    have hr1 := hb.below d1
    have rown := o1.rb
    have hz1 := d1.size
    have G := BGet_any p m w1 ((rown.take (k := n) (by omega))) (by omega)
    have htk : (l ++ [(77 : UInt8)]).take n = l := take_mark HL.out
    rw [htk] at G
    have G2 := RGet_any p m w1 hr1 (by omega)
    have P1 := BPut_any p m u w1 ((rown.take (k := n) (by omega))) (by omega) (Nat.le_refl _) hu
    rw [htk] at P1
    generalize Bt.getS l p m = gr at *
    obtain ⟨gv, ge⟩ := gr
    generalize hps : Bt.putS l p m u = ps at *
    obtain ⟨pv, pe⟩ := ps
    dsimp only at G G2
    have HPS := Lib.hid hps
    have HPL : Hid (pv.length ≤ n) := Lib.hid (by
      have h := putS_len l p m u
      rw [hps, HL.out] at h
      exact h)
    replace G := Lib.hid G; replace G2 := Lib.hid G2; replace P1 := Lib.hid P1
    clear F0 hps htk
    go_wp2_with fail
    refine (G.out).mono ?_
    rintro e _ ⟨rfl, rfl⟩
    go_wp2_with fail
    refine (G2.out).mono ?_
    rintro e _ ⟨rfl, rfl⟩
    go_wp2_with fail
    refine (P1.out).mono ?_
    rintro e w2 ⟨A2, c2, rfl, o2, b2⟩
    dsimp only at o2
    have K2 := K1.later b2
    have d2 := below_step d1 b2 (Nat.le_refl _)
    have hr2 := hr1.below (b2.mono hz1)
    have rown2 := rown.below b2
    have P2 := RPutB_any p m u w2 hr2 (by omega) d2.size hu
    rw [HPS.out] at P2
    replace P2 := Lib.hid P2
    clear F1
    have F2 := K2.four
    go_wp2_with fail
    refine (P2.out).mono ?_
    rintro e w3 ⟨A3, c3, rfl, o3, b3⟩
    dsimp only at o3
    have K3 := K2.later b3
    have d3 := below_step d2 b3 (Nat.le_refl _)
    have b23 := below_step b2 b3 (Nat.le_refl _)
    have hr3 := hr2.below (b3.mono d2.size)
    have rown3 := rown2.below (b3.mono b2.size)
    have o23 := o2.below b3
    clear F2
    have F3 := K3.four
    have e1 := fun d => convb (o23.rb.drewN d)
    have e2 := fun d => convb (o3.rb.drewN d)
    have C1 := Lib.hid (fun w => Bytes_any m w (by omega))
    have C2 := Lib.hid (fun w => RBytes_any m w (by omega))
    have hz2 := b2.size
    clear o2 o3 hr1 hr2 rown rown2
    go_wp2_with fail
    go_quiet ((first | (go_at_call 13; exact quiet_same (C1.out _)) | (go_at_call 14; exact quiet_same (C2.out _))))
    have SP := Spoil_wb _ (o23.wb.below (below_drewN (Below.refl _ w3) nq)) (Nat.lt_of_le_of_lt HPL.out (by omega)) (show w1.heap.size ≤ (w3.drewN nq).heap.size from b23.size)
    replace SP := Lib.hid SP
    go_wp2_with fail
    refine (SP.out).mono ?_
    rintro e w4 ⟨rfl, b4, _, _⟩
    have b34 : Below w1.heap.size w3 w4 := (below_drewN (Below.refl _ w3) nq).trans b4
    have d4 := d3.trans (b34.mono hz1)
    have rown4 := rown3.below b34
    have hr4 := hr3.below (b34.mono hz1)
    have F4 := (K3.below b34 (Nat.lt_of_lt_of_le K0.lt b1.size)).four
    have KE := Kept_any _ rown4 hr4
    have hll : (l == l && (77 : UInt8) == 77) = true := by simp
    rw [hll] at KE
    replace KE := Lib.hid KE
    clear F3 hll
    go_wp2_with fail
    refine (KE.out).mono ?_
    rintro e _ ⟨rfl, rfl⟩
    go_wp2_with fail
    refine (known29_any _).mono ?_
    rintro e w5 ⟨rfl, b5⟩
    go_wp2_with fail
    go_ret
    exact ⟨rfl, below_step d4 b5 (Nat.le_refl _)⟩
end Go.Proofs.Ytecgahhdbhdplaa
