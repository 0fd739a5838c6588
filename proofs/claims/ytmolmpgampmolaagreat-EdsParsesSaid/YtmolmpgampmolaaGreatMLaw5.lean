/-
  Walk: EdsParses.
  Conditions: none.
-/
import Derived.Test.YtmolmpgampmolaaGreatJ22
import Derived.Test.YtmolmpgampmolaaGreatJ25
import Derived.Test.YtmolmpgampmolaaGreatJ33
namespace Go.Proofs.YtmolmpgampmolaaGreat
set_option linter.unusedVariables false
set_option linter.unusedSimpArgs false
open Go.RowKit Go.Sort
set_option maxRecDepth 100000 in
set_option maxHeartbeats 8000000 in
theorem EdsParses_walk (W : World) (s0 : ByteArray) (ws : s0.size ≤ maxLen) : Calls Tryz.prog 3 #[.string s0] W fun e w' => e = .returned (.bool true) ∧ Below W.heap.size W w' := by
  obtain ⟨s, rfl⟩ := T_of s0
  have hT := T_size s
  have KN := Lib.hid (fun w => known17_any w)
  by_cases hbig : 20000 < s.length
  · go_enter Tryz.func3, Tryz.ntmps3
    go_wp2_with fail
    refine (KN.out _).mono ?_
    rintro e w8 ⟨rfl, b8⟩
    go_wp2_with fail
    go_ret
    exact ⟨rfl, b8⟩
  have hs20 : s.length ≤ 20000 := by omega
  have PA := fun w => EParse_any s w (by omega)
  have PB := fun w => ERParse_any s w (by omega)
  have hlens := Ed.right_lens (Dc.new_ok (Ed.parse_new s)).2.2
  unfold ParPost at PA PB
  generalize Ed.parseS s = p at *
  obtain ⟨es, z, q⟩ := p
  dsimp only at PA PB hlens
  have HLN := Lib.hid (fun e he => (hlens e he).2)
  replace PA := Lib.hid PA
  replace PB := Lib.hid PB
  clear hbig hlens
  go_enter Tryz.func3, Tryz.ntmps3
  go_wp2_with fail
  refine (PA.out _).mono ?_
  rintro e w1 ⟨A1, c1, rfl, o1, b1⟩
  go_wp2_with fail
  refine (PB.out _).mono ?_
  rintro e w2 ⟨A2, c2, rfl, o2, b2⟩
  have d2 := below_step b1 b2 (Nat.le_refl _)
  have o1' := o1.below b2
  have AL := Lib.hid (RAll15_eq w2 o1'.ren o2.ren (Nat.le_refl _) (Nat.le_refl _) (Nat.le_refl _) (Nat.le_refl _))
  have hlt := o1.ren.lt
  have XR := o1.xr.below b2
  have hb1 := b1.size
  clear o1 o1' b1 PB
  go_wp2_with fail
  refine (AL.out).mono ?_
  rintro e w3 ⟨rfl, b3⟩
  have X3 := XR.below b3
  have O3 := o2.below b3
  have d3 := below_step d2 b3 (Nat.le_refl _)
  have hz3 : w1.heap.size ≤ w3.heap.size := Nat.le_trans b2.size b3.size
  clear AL XR o2 b2 b3 d2
  generalize w1.heap.size = m at *
  go_wp2_with fail
  go_loopw [10] (fun i wr => ∃ k : Nat, k ≤ es.length ∧ i = .int .i64 k ∧ XRow wr W.heap.size m A1 es.length c1 es ∧ OEn wr m A2 es.length c2 es ∧ Below W.heap.size W wr) (fun i _ => es.length - (intOf i).toNat)
  case atStart => exact ⟨0, Nat.zero_le _, rfl, X3, O3, d3⟩
  case round =>
    obtain ⟨k, hk, rfl, XX, OO, bb⟩ := hrel
    by_cases hkn : k < es.length
    · obtain ⟨b, o, A4, n4, c4, rfl, wb, hn4, hm4, hc⟩ := XX.at_ hkn
      have hmem : es.getD k Dc.en0 ∈ es := by
        have : es.getD k Dc.en0 = es[k] := by simp [List.getD, List.getElem?_eq_getElem hkn]
        rw [this]; exact List.getElem_mem _
      have hln := HLN.out _ hmem
      have SP := Lib.hid (Spoil_wb wr wb (by omega) bb.size)
      have HM := Lib.hid hm4
      have i0 : (0 : Int) ≤ (k : Int) := by omega
      have i1 : (k : Int) < (es.length : Int) := by omega
      clear hn4 hm4 hmem hln wb
      go_wp2_with fail
      refine (SP.out).mono ?_
      rintro e w5 ⟨rfl, b5, u5, g5⟩
      go_wp2_with fail
      go_roundw
      case rel => exact ⟨k + 1, by omega, by go_num, XX.sp u5, OO.grown g5 HM.out, bb.trans b5⟩
      case measure => simp [intOf] <;> omega
    · obtain rfl : k = es.length := by omega
      clear X3 O3 XX hkn
      go_wp2_with fail
      refine (PA.out _).mono ?_
      rintro e w6 ⟨A6, c6, rfl, o6, b6⟩
      have d6 := below_step bb b6 (Nat.le_refl _)
      have AL := Lib.hid (RAll15_eq w6 o6.ren (OO.below b6).ren (Nat.le_refl _) (Nat.le_refl _) (Nat.le_refl _) (Nat.le_refl _))
      clear o6 OO PA
      go_wp2_with fail
      refine (AL.out).mono ?_
      rintro e w7 ⟨rfl, b7⟩
      have d7 := below_step d6 b7 (Nat.le_refl _)
      go_wp2_with fail
      refine (KN.out _).mono ?_
      rintro e w8 ⟨rfl, b8⟩
      go_wp2_with fail
      go_ret
      exact ⟨rfl, below_step d7 b8 (Nat.le_refl _)⟩
end Go.Proofs.YtmolmpgampmolaaGreat
