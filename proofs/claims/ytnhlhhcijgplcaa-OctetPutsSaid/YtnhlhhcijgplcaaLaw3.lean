/-
  Walk: OctetPuts.
  Conditions: none.
-/
import Derived.Test.YtnhlhhcijgplcaaKnown
import Derived.Test.YtnhlhhcijgplcaaFrame
namespace Go.Proofs.Ytnhlhhcijgplcaa
set_option linter.unusedVariables false
set_option linter.unusedSimpArgs false
open Go.ChangeShapes Go.WideShapes Go.ChangeAt Go.RowKit
theorem put_len (l : List UInt8) (x : Int) (m : Nat) : (Oct.putS l x m).1.length ≤ l.length + 8 := by
  unfold Oct.putS
  split
  · split
    · simp
    · simp only [List.length_append, Oct.lb_length]; omega
  · simp
theorem putInt_len (l : List UInt8) (x z : Int) : (Oct.putIntS l x z).1.length ≤ l.length + 8 := by
  unfold Oct.putIntS
  split
  · split
    · simp only [List.length_append, Oct.lb_length]; omega
    · simp
  · simp
set_option maxHeartbeats 2000000 in
theorem OctetPuts_walk {A : Option Addr} {n c : Nat} {l : List UInt8} (W : World) (h : RB W W.heap.size A n c l) (x : Int) (wx : (Lit.int .i64 x).wf = true) (a : Int) (wa : (Lit.int .u64 a).wf = true) :
    Calls Try.prog 3 #[.slice A n c, .int .i64 x, .int .u64 a] W fun e w' => e = .returned (.bool true) ∧ Below W.heap.size W w' := by
  obtain ⟨ha, hb⟩ := bounds_u64 wa
  obtain ⟨m, rfl⟩ := Int.eq_ofNat_of_zero_le ha
  by_cases hbig : 1048576 < n
  · go_enter Try.func3, Try.ntmps3
    go_wp2_with fail
    refine (known_any _).mono ?_
    rintro e w1 ⟨rfl, hb1⟩
    go_wp2_with fail
    go_ret
    exact ⟨rfl, hb1⟩
  · have hz : ∃ z : Int, IntKind.i64.wrap (m : Int) = z ∧ -9223372036854775808 ≤ z ∧ z ≤ 9223372036854775807 := ⟨_, rfl, by rw [IntKind.wrap_i64]; omega, by rw [IntKind.wrap_i64]; omega⟩
    obtain ⟨z, hz, hz1, hz2⟩ := hz
    have hl1 := put_len l x m
    have hl2 := putInt_len l x z
    rw [h.len] at hl1 hl2
    have C1 := Lib.hid (fun (A : Option Addr) (c B : Nat) (w : World) (hb : RB w B A n c l) (hB : B ≤ w.heap.size) => Put_any x m w hb (by omega) hB (by omega))
    have C2 := Lib.hid (fun (A : Option Addr) (c B : Nat) (w : World) (hb : RB w B A n c l) (hB : B ≤ w.heap.size) => RPut_any x m w hb (by omega) hB (by omega))
    have C3 := Lib.hid (fun (A : Option Addr) (c B : Nat) (w : World) (hb : RB w B A n c l) (hB : B ≤ w.heap.size) => PutInt_any x z w hb (by omega) hB hz1 hz2)
    have C4 := Lib.hid (fun (A : Option Addr) (c B : Nat) (w : World) (hb : RB w B A n c l) (hB : B ≤ w.heap.size) => RPutInt_any x z w hb (by omega) hB hz1 hz2)
    generalize Oct.putS l x m = p at *
    generalize Oct.putIntS l x z = q at *
    obtain ⟨p, e⟩ := p
    obtain ⟨q, f⟩ := q
    dsimp only at *
    go_enter Try.func3, Try.ntmps3
    go_wp2_with fail
    refine (Lent_any _ h (by omega) (Nat.le_refl _)).mono ?_
    rintro e w1 ⟨A1, c1, rfl, h1, b1⟩
    have o1 := h1.take (k := n) (by omega)
    rw [take_mark h.len] at o1
    go_wp2_with fail
    refine (C1.out _ _ _ _ o1.rb (Nat.le_refl _)).mono ?_
    rintro e w2 ⟨A2, c2, rfl, h2, hb2⟩
    have b2 := below_step b1 hb2 (Nat.le_refl _)
    go_wp2_with fail
    refine (C2.out _ _ _ _ (h.below b2) b2.size).mono ?_
    rintro e w3 ⟨A3, c3, rfl, h3, hb3⟩
    have b3 := below_step b2 hb3 (Nat.le_refl _)
    go_wp2_with fail
    refine (C3.out _ _ _ _ (o1.below (below_step hb2 hb3 (Nat.le_refl _))).rb (Nat.le_refl _)).mono ?_
    rintro e w4 ⟨A4, c4, rfl, h4, hb4⟩
    have b4 := below_step b3 hb4 (Nat.le_refl _)
    go_wp2_with fail
    refine (C4.out _ _ _ _ (h.below b4) b4.size).mono ?_
    rintro e w5 ⟨A5, c5, rfl, h5, hb5⟩
    have b5 := below_step b4 hb5 (Nat.le_refl _)
    have d5 := below_step (below_step (below_step hb2 hb3 (Nat.le_refl _)) hb4 (Nat.le_refl _)) hb5 (Nat.le_refl _)
    have g1 := h1.below d5
    have g2 := ((h2.below hb3).below hb4).below hb5
    have g3 := (h3.below hb4).below hb5
    have g4 := h4.below hb5
    have e2 := convb g2.rb
    have e3 := convb g3.rb
    have e4 := convb g4.rb
    have e5 := convb h5.rb
    go_wp2_with fail
    refine (Kept_any _ g1.rb (h.below b5)).mono ?_
    rintro e w6 ⟨he, rfl⟩
    rw [beq_self_eq_true] at he
    subst he
    clear e2 e3 e4 e5
    go_wp2_with fail
    refine (Spoil_any _ g2 (by omega) d5.size).mono ?_
    rintro e w6 ⟨rfl, hs6, hg6⟩
    have hne : (Value.slice A4 q.length c4).ownBlock = none ∨ (Value.slice A4 q.length c4).ownBlock ≠ (Value.slice A2 p.length c2).ownBlock :=
      own_apart (m := w3.heap.size) (fun k hk => Nat.lt_of_lt_of_le (h2.lt k hk).2 hb3.size) (fun k hk => (h4.lt k hk).1)
    have g4' := g4.kept hg6 hne
    have d6 := d5.trans hs6
    have b6 := b5.trans (hs6.mono b1.size)
    have s34 : w1.heap.size ≤ w3.heap.size := Nat.le_trans hb2.size hb3.size
    have s36 : w3.heap.size ≤ w6.heap.size := Nat.le_trans (Nat.le_trans hb4.size hb5.size) hs6.size
    go_wp2_with fail
    refine (Spoil_any _ g4' (by omega) s36).mono ?_
    rintro e w7 ⟨rfl, hs7, hg7⟩
    have d7 := d6.trans (hs7.mono s34)
    have b7 := b6.trans ((hs7.mono s34).mono b1.size)
    go_wp2_with fail
    refine (Kept_any _ (h1.below d7).rb (h.below b7)).mono ?_
    rintro e w8 ⟨he, rfl⟩
    rw [beq_self_eq_true] at he
    subst he
    go_wp2_with fail
    refine (known_any _).mono ?_
    rintro e w8 ⟨rfl, hb8⟩
    go_wp2_with fail
    go_ret
    exact ⟨rfl, below_step b7 hb8 (Nat.le_refl _)⟩
end Go.Proofs.Ytnhlhhcijgplcaa
