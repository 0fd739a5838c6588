/-
  Walk: OctetBack.
  Conditions: none.
-/
import Derived.Test.YtnhlhhcijgplcaaKnown
import Derived.Test.YtnhlhhcijgplcaaOctLaws
import Derived.Test.YtnhlhhcijgplcaaFrame
namespace Go.Proofs.Ytnhlhhcijgplcaa
set_option linter.unusedVariables false
set_option linter.unusedSimpArgs false
open Go.ChangeShapes Go.WideShapes Go.ChangeAt Go.RowKit
set_option maxRecDepth 100000 in
set_option maxHeartbeats 4000000 in
theorem OctetBack_walk {A : Option Addr} {n c : Nat} {l : List UInt8} (W : World) (h : RB W W.heap.size A n c l) (a : Int) (wa : (Lit.int .u64 a).wf = true)
    {A' : Option Addr} {n' c' : Nat} {l' : List UInt8} (h' : RB W W.heap.size A' n' c' l') :
    Calls Try.prog 6 #[.slice A n c, .int .u64 a, .slice A' n' c'] W fun e w' => e = .returned (.bool true) ∧ Below W.heap.size W w' := by
  obtain ⟨ha, hb⟩ := bounds_u64 wa
  obtain ⟨m, rfl⟩ := Int.eq_ofNat_of_zero_le ha
  have hn := h.lt
  have hn' := h'.lt
  by_cases hbig : 16384 < n
  · go_enter Try.func6, Try.ntmps6
    go_wp2_with fail
    refine (known_any _).mono ?_
    rintro e w1 ⟨rfl, hb1⟩
    go_wp2_with fail
    go_ret
    exact ⟨rfl, hb1⟩
  by_cases hbig' : 16384 < n'
  · go_enter Try.func6, Try.ntmps6
    go_wp2_with fail
    refine (known_any _).mono ?_
    rintro e w1 ⟨rfl, hb1⟩
    go_wp2_with fail
    go_ret
    exact ⟨rfl, hb1⟩
  have hl := h.len
  have hl' := h'.len
  have HL := Lib.hid hl; have HL' := Lib.hid hl'
  clear hl hl'
  go_enter Try.func6, Try.ntmps6
  go_wp2_with fail
  go_loopw [7] (fun v wr => ∃ j : Nat, 1 ≤ j ∧ j ≤ 9 ∧ v = .int .i64 j ∧ Below W.heap.size W wr) (fun v _ => 9 - (intOf v).toNat)
  case atStart => exact ⟨1, by omega, by omega, rfl, Below.refl _ _⟩
  case round =>
    obtain ⟨j, hj1, hj, rfl, hbel⟩ := hrel
    have hr := h.below hbel
    have hr' := h'.below hbel
    have hsz := hbel.size
    by_cases hlt : j ≤ 8
    · have c1 := fun w => Low_any m (8 * (j : Int)) w (by omega)
      rw [Oct.lowS_at m j hj1 hlt] at c1
      have hlo : m % 256 ^ j < 18446744073709551616 := Nat.lt_of_le_of_lt (Nat.mod_le _ _) (by omega)
      have c2 := fun (w : World) (B : Nat) (hb : RB w B A n c l) (hB : B ≤ w.heap.size) => Put_any (j : Int) (m % 256 ^ j) w hb (by omega) hB hlo
      rw [Oct.putS_at l m j hj1 hlt] at c2
      have c5 := fun (A : Option Addr) (n1 c B : Nat) (w : World) (hb : RB w B A n1 c (l ++ Oct.lb j m ++ l')) => Get_any (l.length : Int) (j : Int) w hb
      rw [Oct.getS_at l l' m j hj1 hlt] at c5
      have hlen : (l ++ Oct.lb j m).length = n + j := by rw [List.length_append, Oct.lb_length, HL.out]
      have htk : (l ++ Oct.lb j m).take n = l := by rw [← HL.out]; simp
      rw [HL.out] at c5
      simp only [hlen] at c2
      generalize l ++ Oct.lb j m = bs at *
      generalize m % 256 ^ j = lo at *
      have C1 := Lib.hid c1; have C2 := Lib.hid c2; have C5 := Lib.hid c5
      have HT := Lib.hid htk; have HLN := Lib.hid hlen
      clear c1 c2 c5 htk hlen
      go_wp2_with fail
      refine (C1.out _).mono ?_
      rintro e w1 ⟨rfl, rfl⟩
      go_wp2_with fail
      refine (C2.out _ _ hr hsz).mono ?_
      rintro e w2 ⟨A2, c2, rfl, h2, b2⟩
      have d2 := below_step hbel b2 (Nat.le_refl _)
      have t2 := (h2.rb).take (k := n) (by omega)
      rw [HT.out] at t2
      have e1 := convb_grow t2 (Nat.le_refl _)
      have e2 := convb_grow (hr.below (b2.mono hsz)) (Nat.le_trans hsz b2.size)
      have q1 : (((n + j : Nat) : Int) != (n : Int) + (j : Int)) = false := by simp
      have k2 := h2.rb.le
      have k3 := h2.rb.cap
      go_wp2_with fail
      refine region_later (by kernel_rfl) ?_
      refine phase_later (by kernel_rfl) 0 (below_drew _) [0, 1, 2, 3, 4, 5, 6, 7, 9, 11, 8, 10, 12, 13, 14, 15, 16, 17, 21, 18, 22, 19, 20, 23, 24] rfl (by kernel_rfl) ?_
      simp only [picks, nth]
      repeat (go_big_quiet_step (fail))
      refine wpQuiet_nil ?_
      refine phase_end (by kernel_rfl) ?_
      clear e1 e2 q1
      go_wp2_with fail
      have r2 := hr'.below (b2.mono hsz)
      have z2 := b2.size
      refine (Join_any _ h2.rb.drew r2.drew (by omega) (Nat.le_refl _) (by show W.heap.size ≤ w2.heap.size; omega)).mono ?_
      rintro e w3 ⟨A3, c3, rfl, h3, b3⟩
      have d3 := below_step d2 (Below.trans (below_drew w2) b3) (Nat.le_refl _)
      go_wp2_with fail
      refine (C5.out _ _ _ _ _ h3.rb).mono ?_
      rintro e w4 ⟨rfl, rfl⟩
      go_wp2_with fail
      go_roundw
      case rel => exact ⟨j + 1, by omega, by omega, by go_num, d3⟩
      case measure => simp [intOf] <;> omega
    · obtain rfl : j = 9 := by omega
      go_wp2_with fail
      refine (known_any _).mono ?_
      rintro e w1 ⟨rfl, b1⟩
      go_wp2_with fail
      go_ret
      exact ⟨rfl, below_step hbel b1 (Nat.le_refl _)⟩
end Go.Proofs.Ytnhlhhcijgplcaa
