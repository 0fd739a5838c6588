/-
  Layer 29's Get and Put, and the reference's, at any place.
  Conditions: none.
-/
import Derived.Test.YtecgahhdbhdplaaBitPack
import Derived.Test.YtecgahhdbhdplaaBitSame
namespace Go.Proofs.Ytecgahhdbhdplaa
set_option linter.unusedVariables false
set_option linter.unusedSimpArgs false
open Go.ChangeShapes Go.WideShapes Go.ChangeAt Go.RowKit
theorem BGet_any {A : Option Addr} {n c B : Nat} {l : List UInt8} (p m : Int) (w : World) (hb : RB w B A n c l) (hn : n ≤ 1000000) :
    Calls Try.prog 9 #[.slice A n c, .int .i64 p, .int .i64 m] w fun e w' => e = .returned (.tuple #[.int .u64 ((Bt.getS l p m).1 : Int), .int .i64 (Bt.getS l p m).2]) ∧ w = w' := by
  unfold Bt.getS
  rw [hb.len]
  by_cases h : Bt.roomS n p m = 0
  · rw [if_pos h]
    obtain ⟨h1, h2, h3, h4⟩ := (room_range n p m).resolve_left (by omega)
    have h5 := (h4.resolve_left (by omega)).2
    have := BGet_ok p.toNat m.toNat w hb hn (by omega) (by omega) (by omega)
    rw [Int.toNat_of_nonneg h3, Int.toNat_of_nonneg (by omega)] at this
    exact this
  · rw [if_neg h]
    exact BGet_bad p m w hn h
theorem BPut_any {A : Option Addr} {n c B : Nat} {l : List UInt8} (p m : Int) (v : Nat) (w : World) (hb : RB w B A n c l) (hn : n ≤ 1000000) (hB : B ≤ w.heap.size) (hv : v < 18446744073709551616) :
    Calls Try.prog 11 #[.slice A n c, .int .i64 p, .int .i64 m, .int .u64 (v : Int)] w (PackPost (Bt.putS l p m v) w) := by
  have hl := hb.len
  by_cases h1 : Bt.roomS n p m = 1
  · refine (BPut_bad p m v w hn 1 (.inl ⟨h1, rfl⟩)).mono fun e w' ⟨he, hw⟩ => ?_
    subst he hw
    exact pack_bad (by unfold Bt.putS; rw [hl, if_pos h1]) (Below.refl _ _)
  · cases hw : Bt.wideS v m with
    | true =>
      refine (BPut_bad p m v w hn 9 (.inr (.inl ⟨h1, hw, rfl⟩))).mono fun e w' ⟨he, hw'⟩ => ?_
      subst he hw'
      exact pack_bad (by unfold Bt.putS; rw [hl, if_neg h1, if_pos hw]) (Below.refl _ _)
    | false =>
      obtain ⟨r1, r2, r3, r4⟩ := (room_range n p m).resolve_left h1
      rcases r4 with r4 | ⟨r4, r5⟩
      · refine (BPut_bad p m v w hn 2 (.inr (.inr ⟨r4, hw, rfl⟩))).mono fun e w' ⟨he, hw'⟩ => ?_
        subst he hw'
        exact pack_bad (by unfold Bt.putS; rw [hl, if_neg h1, if_neg (by rw [hw]; decide), if_neg (by omega), r4]) (Below.refl _ _)
      · obtain ⟨P, rfl⟩ : ∃ P : Nat, p = (P : Int) := ⟨p.toNat, by omega⟩
        obtain ⟨M, rfl⟩ : ∃ M : Nat, m = (M : Int) := ⟨m.toNat, by omega⟩
        refine (BPut_ok P M v w hb hn hB hv (by omega) (by omega) (by omega) hw).mono fun e w' ⟨A1, c1, he, ho, hbl⟩ => ?_
        subst he
        exact pack_fine (by unfold Bt.putS; rw [hl, if_neg h1, if_neg (by rw [hw]; decide), if_pos r4]; rfl) (by rw [Bt.putF_length]; exact hl) ho hbl
theorem RGet_any {A : Option Addr} {n c B : Nat} {l : List UInt8} (p m : Int) (w : World) (hb : RB w B A n c l) (hn : n ≤ 1000000) :
    Calls Try.prog 10 #[.slice A n c, .int .i64 p, .int .i64 m] w fun e w' => e = .returned (.tuple #[.int .u64 ((Bt.getS l p m).1 : Int), .int .i64 (Bt.getS l p m).2]) ∧ w = w' := by
  unfold Bt.getS
  rw [hb.len]
  by_cases h : Bt.roomS n p m = 0
  · rw [if_pos h]
    obtain ⟨h1, h2, h3, h4⟩ := (room_range n p m).resolve_left (by omega)
    have h5 := (h4.resolve_left (by omega)).2
    have := RGet_ok p.toNat m.toNat w hb hn (by omega) (by omega) (by omega)
    rw [Int.toNat_of_nonneg h3, Int.toNat_of_nonneg (by omega)] at this
    exact this
  · rw [if_neg h]
    exact RGet_bad p m w hn h
theorem RPutB_any {A : Option Addr} {n c B : Nat} {l : List UInt8} (p m : Int) (v : Nat) (w : World) (hb : RB w B A n c l) (hn : n ≤ 1000000) (hB : B ≤ w.heap.size) (hv : v < 18446744073709551616) :
    Calls Try.prog 12 #[.slice A n c, .int .i64 p, .int .i64 m, .int .u64 (v : Int)] w (PackPost (Bt.putS l p m v) w) := by
  have hl := hb.len
  by_cases h1 : Bt.roomS n p m = 1
  · refine (RPutB_bad p m v w hn 1 (.inl ⟨h1, rfl⟩)).mono fun e w' ⟨he, hw⟩ => ?_
    subst he hw
    exact pack_bad (by unfold Bt.putS; rw [hl, if_pos h1]) (Below.refl _ _)
  · cases hw : Bt.wideS v m with
    | true =>
      refine (RPutB_bad p m v w hn 9 (.inr (.inl ⟨h1, hw, rfl⟩))).mono fun e w' ⟨he, hw'⟩ => ?_
      subst he hw'
      exact pack_bad (by unfold Bt.putS; rw [hl, if_neg h1, if_pos hw]) (Below.refl _ _)
    | false =>
      obtain ⟨r1, r2, r3, r4⟩ := (room_range n p m).resolve_left h1
      rcases r4 with r4 | ⟨r4, r5⟩
      · refine (RPutB_bad p m v w hn 2 (.inr (.inr ⟨r4, hw, rfl⟩))).mono fun e w' ⟨he, hw'⟩ => ?_
        subst he hw'
        exact pack_bad (by unfold Bt.putS; rw [hl, if_neg h1, if_neg (by rw [hw]; decide), if_neg (by omega), r4]) (Below.refl _ _)
      · obtain ⟨P, rfl⟩ : ∃ P : Nat, p = (P : Int) := ⟨p.toNat, by omega⟩
        obtain ⟨M, rfl⟩ : ∃ M : Nat, m = (M : Int) := ⟨m.toNat, by omega⟩
        refine (RPutB_ok P M v w hb hn hB hv (by omega) (by omega) (by omega) hw).mono fun e w' ⟨A1, c1, he, ho, hbl⟩ => ?_
        subst he
        exact pack_fine (by unfold Bt.putS; rw [hl, if_neg h1, if_neg (by rw [hw]; decide), if_pos r4]; rfl) (by rw [Bt.putF_length]; exact hl) ho hbl
end Go.Proofs.Ytecgahhdbhdplaa
