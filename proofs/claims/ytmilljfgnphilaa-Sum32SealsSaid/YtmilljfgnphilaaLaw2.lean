/-
  Walks: Sum32Seals, Sum32Back.
  Conditions: none.
-/
import Derived.Test.YtmilljfgnphilaaKnown
import Derived.Test.YtmilljfgnphilaaFrame
namespace Go.Proofs.Ytmilljfgnphilaa
open Go.ChangeShapes Go.WideShapes Go.ChangeAt Go.RowKit
theorem openS_seal (l : List UInt8) : openS (sealS l) = (l, 0) := by
  have h : (sealS l).take l.length = l := by unfold sealS; simp
  unfold openS
  rw [sealS_length, if_neg (by omega), show l.length + 4 - 4 = l.length by omega, h, if_pos rfl]
set_option maxHeartbeats 2000000 in
theorem Sum32Seals_walk {A : Option Addr} {n c : Nat} {l : List UInt8} (W : World) (h : RB W W.heap.size A n c l) :
    Calls Try.prog 4 #[.slice A n c] W fun e w' => e = .returned (.bool true) ∧ Below W.heap.size W w' := by
  have hl := h.len
  by_cases hbig : 16384 < n
  · go_enter Try.func4, Try.ntmps4
    go_wp2_with (go_at_call 8; refine (known_any _).mono ?_; rintro e w1 ⟨rfl, hb1⟩)
    go_ret
    exact ⟨rfl, hb1⟩
  · have HL := Lib.hid hl; clear hl
    go_enter Try.func4, Try.ntmps4
    go_wp2_with fail
    refine (Lent_any _ h (by omega) (Nat.le_refl _)).mono ?_
    rintro e w1 ⟨A1, c1, rfl, h1, hb1⟩
    have o1 := h1.take (k := n) (by omega)
    rw [take_mark h.len] at o1
    go_wp2_with fail
    refine (Seal_any _ o1.rb (Nat.le_refl _) (by omega)).mono ?_
    rintro e w2 ⟨A2, c2, rfl, h2, hb2⟩
    have b2 := below_step hb1 hb2 (Nat.le_refl _)
    go_wp2_with fail
    refine (Open_any _ (o1.below hb2).rb (Nat.le_refl _) (by omega)).mono ?_
    rintro e w3 ⟨A3, c3, rfl, h3, hb3⟩
    have b3 := below_step b2 hb3 (Nat.le_refl _)
    go_wp2_with fail
    refine (ROpen_any _ (h.below b3) b3.size (by omega)).mono ?_
    rintro e w4 ⟨A4, c4, rfl, h4, hb4⟩
    have b4 := below_step b3 hb4 (Nat.le_refl _)
    have k1 := (h1.below hb2).below (hb3.trans (hb4.mono hb3.size))
    have k2 := h2.below (hb3.trans (hb4.mono hb3.size))
    have k3 := h3.below hb4
    have hsl : (openS l).1.length < 140737488355328 := by have := open_lens l; have := HL.out; omega
    generalize openS l = y at *
    obtain ⟨y, ye⟩ := y
    have e2 := convb_grow k2.rb (Nat.le_refl _)
    have e3 := convb_grow k3.rb (Nat.le_refl _)
    have e4 := convb_grow h4.rb (Nat.le_refl _)
    dsimp only at *
    go_wp2_with fail
    refine region_later (by kernel_rfl) ?_
    refine phase_later (by kernel_rfl) 16 (below_drew _) [0, 2, 1] rfl (by kernel_rfl) ?_
    simp only [picks, nth]
    repeat (go_big_quiet_step (fail))
    refine wpQuiet_nil ?_
    refine phase_op 3 15 rfl (by kernel_rfl) (by decide) ?_
    simp only [nth]
    go_wp2_with (go_at_call 18; refine (RSeal_any _ (h.below b4).drew b4.size (by omega)).mono ?_; rintro e w5 ⟨A5, c5, rfl, h5, hb5⟩)
    have d5 : Below w4.heap.size w4 w5 := (below_drew w4).trans hb5
    refine behind_later d5 ?_
    have e5 := convb_grow h5.rb (Nat.le_refl _)
    have e3' := convb_grow (k3.rb.below d5) d5.size
    have e4' := convb_grow (h4.rb.below d5) d5.size
    refine phase_later (by kernel_rfl) 0 (Below.refl _ _) [4, 5, 6, 7, 9, 8, 10, 11, 12, 13, 14, 15, 16, 17, 18] rfl (by kernel_rfl) ?_
    simp only [picks, nth]
    repeat (go_big_quiet_step (fail))
    refine wpQuiet_nil ?_
    refine phase_end (by kernel_rfl) ?_
    have b5 := below_step b4 d5 (Nat.le_refl _)
    have d15 : Below w1.heap.size w1 w5 := (hb2.trans (hb3.mono hb2.size)).trans ((hb4.mono (Nat.le_trans hb2.size hb3.size)).trans (d5.mono (Nat.le_trans hb2.size (Nat.le_trans hb3.size hb4.size))))
    have s2 := k2.below d5
    have s3 := k3.below d5
    have ap := own_apart (fun k hk => (h2.lt k hk).2) (fun k hk => (h3.lt k hk).1)
    have z1 : w1.heap.size ≤ w5.heap.size := d15.size
    have z2 : w2.heap.size ≤ w5.heap.size := Nat.le_trans hb3.size (Nat.le_trans hb4.size d5.size)
    have z0 := hb2.size
    clear e2 e3 e4 e5 e3' e4' k1 k2 k3 h2 h3 h4 h5 hb2 hb3 hb4 hb5 d5 b2 b3 b4
    go_wp2_with fail
    refine (Spoil_any _ s2 (by omega) z1).mono ?_
    rintro e w6 ⟨rfl, hb6, hg6⟩
    have t3 := s3.kept hg6 ap
    have d16 : Below w1.heap.size w1 w6 := d15.trans hb6
    go_wp2_with fail
    refine (Spoil_any _ (t3.more (base' := w1.heap.size) (by omega)) (by omega) d16.size).mono ?_
    rintro e w7 ⟨rfl, hb7, _⟩
    have d17 : Below w1.heap.size w1 w7 := d16.trans hb7
    have b7 := below_step hb1 d17 (Nat.le_refl _)
    go_wp2_with fail
    refine (Kept_any _ (h1.below d17).rb (h.below b7)).mono ?_
    rintro e w8 ⟨he, rfl⟩
    rw [beq_self_eq_true] at he
    subst he
    go_wp2_with fail
    refine (known_any _).mono ?_
    rintro e w9 ⟨rfl, hb9⟩
    go_wp2_with fail
    go_ret
    exact ⟨rfl, below_step b7 hb9 (Nat.le_refl _)⟩

set_option maxHeartbeats 2000000 in
theorem Sum32Back_walk {A : Option Addr} {n c : Nat} {l : List UInt8} {A' : Option Addr} {n' c' : Nat} {l' : List UInt8} {A'' : Option Addr} {n'' c'' : Nat} {l'' : List UInt8} (W : World)
    (h : RB W W.heap.size A n c l) (h' : RB W W.heap.size A' n' c' l') (h'' : RB W W.heap.size A'' n'' c'' l'') :
    Calls Try.prog 5 #[.slice A n c, .slice A' n' c', .slice A'' n'' c''] W fun e w' => e = .returned (.bool true) ∧ Below W.heap.size W w' := by
  by_cases hbig : 16384 < n
  · go_enter Try.func5, Try.ntmps5
    go_wp2_with (go_at_call 8; refine (known_any _).mono ?_; rintro e w1 ⟨rfl, hb1⟩)
    go_ret
    exact ⟨rfl, hb1⟩
  by_cases hbig' : 16384 < n'
  · go_enter Try.func5, Try.ntmps5
    go_wp2_with (go_at_call 8; refine (known_any _).mono ?_; rintro e w1 ⟨rfl, hb1⟩)
    go_ret
    exact ⟨rfl, hb1⟩
  by_cases hbig'' : 16384 < n''
  · go_enter Try.func5, Try.ntmps5
    go_wp2_with (go_at_call 8; refine (known_any _).mono ?_; rintro e w1 ⟨rfl, hb1⟩)
    go_ret
    exact ⟨rfl, hb1⟩
  have ha : Crc.on (Crc.on (Crc.on 0 l) l') l'' = Crc.on 0 ((l ++ l') ++ l'') := by rw [Crc.on_append, Crc.on_append]
  have HA := Lib.hid ha; clear ha
  go_enter Try.func5, Try.ntmps5
  go_wp2_with fail
  refine (Join_any _ h h' (by omega) (Nat.le_refl _) (Nat.le_refl _)).mono ?_
  rintro e w1 ⟨A1, c1, rfl, h1, hb1⟩
  go_wp2_with fail
  refine (Join_any _ h1.rb (h''.below hb1) (by omega) (Nat.le_refl _) hb1.size).mono ?_
  rintro e w2 ⟨A2, c2, rfl, h2, hb2⟩
  have b2 := below_step hb1 hb2 (Nat.le_refl _)
  go_wp2_with fail
  refine (Seal_any _ h2.rb (Nat.le_refl _) (by omega)).mono ?_
  rintro e w3 ⟨A3, c3, rfl, h3, hb3⟩
  have b3 := below_step b2 hb3 (Nat.le_refl _)
  go_wp2_with fail
  refine (Open_any _ h3.rb (Nat.le_refl _) (by omega)).mono ?_
  rintro e w4 ⟨A4, c4, he, h4, hb4⟩
  rw [openS_seal] at he h4
  subst he
  have b4 := below_step b3 hb4 (Nat.le_refl _)
  have k2 := h2.below (hb3.trans (hb4.mono hb3.size))
  have e2 := convb k2.rb
  have e4 := convb h4.rb
  have hl : (l ++ l' ++ l'').length = n + n' + n'' := h2.rb.len
  dsimp only at *
  rw [hl] at e4 ⊢
  generalize hall : l ++ l' ++ l'' = all at *
  have HALL := Lib.hid hall; clear hall
  clear hl
  have h32 : ∀ s x, Crc.on s x < 4294967296 := Crc.on_lt
  go_wp2_with fail
  refine (Sum_any _ (h.below b4) b4.size).mono ?_
  rintro e w5 ⟨rfl, hb5⟩
  have b5 := below_step b4 hb5 (Nat.le_refl _)
  go_wp2_with fail
  refine (On_any _ _ (h32 _ _) (h'.below b5) b5.size).mono ?_
  rintro e w6 ⟨rfl, hb6⟩
  have b6 := below_step b5 hb6 (Nat.le_refl _)
  go_wp2_with fail
  refine (On_any _ _ (h32 _ _) (h''.below b6) b6.size).mono ?_
  rintro e w7 ⟨rfl, hb7⟩
  have b7 := below_step b6 hb7 (Nat.le_refl _)
  have q2 := k2.rb.below (hb5.trans ((hb6.mono hb5.size).trans (hb7.mono (Nat.le_trans hb5.size hb6.size))))
  go_wp2_with fail
  refine (Sum_any _ q2 (Nat.le_trans hb5.size (Nat.le_trans hb6.size hb7.size))).mono ?_
  rintro e w8 ⟨he, hb8⟩
  rw [HA.out, HALL.out] at *
  subst he
  have b8 := below_step b7 hb8 (Nat.le_refl _)
  go_wp2_with fail
  refine (known_any _).mono ?_
  rintro e w9 ⟨rfl, hb9⟩
  go_wp2_with fail
  go_ret
  exact ⟨rfl, below_step b8 hb9 (Nat.le_refl _)⟩
end Go.Proofs.Ytmilljfgnphilaa
