/-
  Walk: Sum32Sums.
  Conditions: none.
-/
import Derived.Test.YtmilljfgnphilaaKnown
import Derived.Test.YtmilljfgnphilaaFrame
namespace Go.Proofs.Ytmilljfgnphilaa
open Go.ChangeShapes Go.WideShapes Go.ChangeAt Go.RowKit
set_option maxHeartbeats 1000000 in
theorem Sum32Sums_walk {A : Option Addr} {n c : Nat} {l : List UInt8} (W : World) (a : Int) (wa : (Lit.int .u32 a).wf = true) (h : RB W W.heap.size A n c l) :
    Calls Try.prog 3 #[.int .u32 a, .slice A n c] W fun e w' => e = .returned (.bool true) ∧ Below W.heap.size W w' := by
  obtain ⟨ha, hb⟩ := bounds_u32 wa
  obtain ⟨s, rfl⟩ := Int.eq_ofNat_of_zero_le ha
  by_cases hbig : 16384 < n
  · go_enter Try.func3, Try.ntmps3
    go_wp2_with (go_at_call 8; refine (known_any _).mono ?_; rintro e w1 ⟨rfl, hb1⟩)
    go_ret
    exact ⟨rfl, hb1⟩
  · go_enter Try.func3, Try.ntmps3
    go_wp2_with fail
    refine (Lent_any _ h (by omega) (Nat.le_refl _)).mono ?_
    rintro e w1 ⟨A1, c1, rfl, h1, hb1⟩
    have r1 := h1.rb
    have o1 := h1.take (k := n) (by omega)
    rw [take_mark h.len] at o1
    have q1 := h.below hb1
    go_wp2_with fail
    refine (On_any s _ (by omega) o1.rb (Nat.le_refl _)).mono ?_
    rintro e w2 ⟨rfl, hb2⟩
    have b2 := below_step hb1 hb2 (Nat.le_refl _)
    have hb2' : Below W.heap.size w1 w2 := hb2.mono hb1.size
    go_wp2_with (first
      | (go_at_call 11; refine (ROn_any s _ (by omega) (q1.below hb2')).mono ?_; rintro e w3 ⟨rfl, rfl⟩)
      | (go_at_call 12; refine (Sum_any _ (o1.below hb2).rb (Nat.le_refl _)).mono ?_; rintro e w3 ⟨rfl, hb3⟩; have b3 := below_step b2 hb3 (Nat.le_refl _))
      | (go_at_call 13; refine (RSum_any _ (h.below b3)).mono ?_; rintro e w4 ⟨rfl, rfl⟩)
      | (go_at_call 14; refine (Kept_any _ ((h1.below hb2).below hb3).rb (h.below b3)).mono ?_; rintro e w4 ⟨he, rfl⟩; rw [beq_self_eq_true] at he; subst he)
      | (go_at_call 8; refine (known_any _).mono ?_; rintro e w5 ⟨rfl, hb5⟩))
    go_ret
    exact ⟨rfl, below_step b3 hb5 (Nat.le_refl _)⟩
end Go.Proofs.Ytmilljfgnphilaa
