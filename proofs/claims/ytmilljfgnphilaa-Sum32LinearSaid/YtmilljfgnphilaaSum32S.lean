/-
  Walks: sum32.Seal, Open; the reference's Sum, Seal, Open.
  Conditions: none.
-/
import Derived.Test.YtmilljfgnphilaaSum32
import Derived.Test.YtmilljfgnphilaaOctGet
import Derived.Test.YtmilljfgnphilaaOctRefPut
namespace Go.Proofs.Ytmilljfgnphilaa
open Go.RowKit
def sealS (l : List UInt8) : List UInt8 := l ++ Oct.lb 4 (Crc.on 0 l)
theorem sealS_length (l : List UInt8) : (sealS l).length = l.length + 4 := by simp [sealS, Oct.lb_length]
/-- What was sealed: ErrShort 2, ErrSum 5. -/
def openS (l : List UInt8) : List UInt8 × Int :=
  if l.length < 4 then ([], 2) else if sealS (l.take (l.length - 4)) = l then (l.take (l.length - 4), 0) else ([], 5)
theorem on64 (l : List UInt8) : Crc.on 0 l < 18446744073709551616 := Nat.lt_trans (Crc.on_lt 0 l) (by decide)
set_option maxHeartbeats 400000 in
theorem Seal_any {A : Option Addr} {n c B : Nat} {l : List UInt8} (w : World) (hb : RB w B A n c l) (hB : B ≤ w.heap.size) (hn : n < 140737488355000) :
    Calls Try.prog 15 #[.slice A n c] w fun e w' => ∃ A1 c1, e = .returned (.slice A1 (n + 4) c1) ∧ OB w' w.heap.size A1 (n + 4) c1 (sealS l) ∧ Below w.heap.size w w' := by
  have h32 : Crc.on 0 l < 4294967296 := Crc.on_lt 0 l
  go_enter Try.func15, Try.ntmps15
  go_wp2_with (first
    | (go_at_call 12; refine (Sum_any _ hb hB).mono ?_; rintro e w1 ⟨rfl, hb1⟩)
    | (go_at_call 23; refine (Put_ok 4 (Crc.on 0 l) _ (hb.below (hb1.mono hB)) hn (Nat.le_trans hB hb1.size) (by decide) (by decide) (on64 l) h32).mono ?_; rintro e w2 ⟨A2, c2, rfl, h2, hb2⟩))
  go_ret
  exact ⟨_, _, rfl, h2.more hb1.size, below_step hb1 hb2 (Nat.le_refl _)⟩

set_option maxHeartbeats 400000 in
theorem RSum_any {A : Option Addr} {n c B : Nat} {l : List UInt8} (w : World) (hb : RB w B A n c l) :
    Calls Try.prog 13 #[.slice A n c] w fun e w' => e = .returned (.int .u32 (Crc.on 0 l : Int)) ∧ w = w' := by
  go_enter Try.func13, Try.ntmps13
  go_wp2_with (go_at_call 11; refine (ROn_any 0 _ (by decide) hb).mono ?_; rintro e w' ⟨rfl, rfl⟩)
  go_ret
  exact ⟨rfl, rfl⟩
set_option maxHeartbeats 400000 in
theorem RSeal_any {A : Option Addr} {n c B : Nat} {l : List UInt8} (w : World) (hb : RB w B A n c l) (hB : B ≤ w.heap.size) (hn : n < 140737488355000) :
    Calls Try.prog 18 #[.slice A n c] w fun e w' => ∃ A1 c1, e = .returned (.slice A1 (n + 4) c1) ∧ OB w' w.heap.size A1 (n + 4) c1 (sealS l) ∧ Below w.heap.size w w' := by
  have h32 : Crc.on 0 l < 4294967296 := Crc.on_lt 0 l
  go_enter Try.func18, Try.ntmps18
  go_wp2_with (first
    | (go_at_call 13; refine (RSum_any _ hb).mono ?_; rintro e w1 ⟨rfl, rfl⟩)
    | (go_at_call 25; refine (RPut_ok 4 (Crc.on 0 l) _ hb hn hB (by decide) (by decide) (on64 l) h32).mono ?_; rintro e w2 ⟨A2, c2, rfl, h2, hb2⟩))
  go_ret
  exact ⟨_, _, rfl, h2, hb2⟩

theorem open_lens (l : List UInt8) : (openS l).1.length ≤ l.length := by
  unfold openS
  split
  · simp
  · split
    · simp
    · simp
set_option maxHeartbeats 1000000 in
theorem Open_any {A : Option Addr} {n c B : Nat} {l : List UInt8} (w : World) (hb : RB w B A n c l) (hB : B ≤ w.heap.size) (hn : n < 140737488355000) :
    Calls Try.prog 16 #[.slice A n c] w fun e w' => ∃ A1 c1, e = .returned (.tuple #[.slice A1 (openS l).1.length c1, .int .i64 (openS l).2]) ∧ OB w' w.heap.size A1 (openS l).1.length c1 (openS l).1 ∧ Below w.heap.size w w' := by
  have hl := hb.len
  have hle := hb.le
  by_cases h4 : n < 4
  · have e : openS l = ([], 2) := by unfold openS; rw [if_pos (by omega)]
    rw [e]
    clear e
    go_enter Try.func16, Try.ntmps16
    go_wp2_with fail
    go_ret2
    exact ⟨none, 0, rfl, OB.none_ _ _, Below.refl _ _⟩
  · obtain ⟨m, rfl⟩ : ∃ m, n = m + 4 := ⟨n - 4, by omega⟩
    have h32 : Crc.on 0 (l.take m) < 4294967296 := Crc.on_lt 0 _
    have hg32 : Oct.le (Oct.cut l m 4) < 4294967296 := by have := Oct.le_lt (Oct.cut l m 4); rwa [Oct.cut_length _ _ _ (by omega)] at this
    have hsplit : l = l.take m ++ Oct.cut l m 4 := by
      unfold Oct.cut
      rw [List.take_of_length_le (l := l.drop m) (by simp; omega), List.take_append_drop]
    have hio : (sealS (l.take m) = l) ↔ Oct.le (Oct.cut l m 4) = Crc.on 0 (l.take m) := by
      constructor
      · intro h
        unfold sealS at h
        have : Oct.lb 4 (Crc.on 0 (l.take m)) = Oct.cut l m 4 := by
          have h' := h.trans hsplit
          exact List.append_inj_right h' rfl
        rw [← this, Oct.le_lb, Nat.mod_eq_of_lt h32]
      · intro h
        unfold sealS
        conv => rhs; rw [hsplit]
        rw [← h]
        congr 1
        have := Oct.lb_le (Oct.cut l m 4)
        rwa [Oct.cut_length _ _ _ (by omega)] at this
    have e : openS l = if Oct.le (Oct.cut l m 4) = Crc.on 0 (l.take m) then (l.take m, 0) else ([], 5) := by
      unfold openS
      rw [if_neg (by omega), show l.length - 4 = m by omega]
      simp only [hio]
    rw [e]
    have hlt : (l.take m).length = m := by simp; omega
    have ht := hb.take (k := m) (by omega)
    clear e hio hsplit
    have HL := Lib.hid hl; clear hl
    have HT := Lib.hid hlt; clear hlt
    by_cases heq : Oct.le (Oct.cut l m 4) = Crc.on 0 (l.take m)
    · rw [if_pos heq]
      have ht1 : (((Oct.le (Oct.cut l m 4) : Nat) : Int) != ((Crc.on 0 (l.take m) : Nat) : Int)) = false := by rw [heq]; simp
      have HE := Lib.hid heq; clear heq
      go_enter Try.func16, Try.ntmps16
      go_wp2_with (first
        | (go_at_call 24; refine (Get_ok 4 m _ hb (by decide) (by decide) (by omega)).mono ?_; rintro e w1 ⟨rfl, rfl⟩)
        | (go_at_call 12; refine (Sum_any _ ht hB).mono ?_; rintro e w1 ⟨rfl, hb1⟩; generalize Crc.on 0 (l.take m) = x at *; generalize Oct.le (Oct.cut l m 4) = y at *)
        | (at_builtin; refine wpList_appb_nil etb rfl (.const (.slice none 0 0)) (.tmp 27) rfl rfl rfl B (ht.below (hb1.mono hB)) (by omega) (Nat.le_trans hB hb1.size) ?_; intro A2 c2 w2 h2 hb2))
      go_ret2
      exact ⟨A2, c2, by rw [HT.out]; rfl, by rw [HT.out]; exact h2.more hb1.size, below_step hb1 hb2 (Nat.le_refl _)⟩
    · rw [if_neg heq]
      have ht1 : (((Oct.le (Oct.cut l m 4) : Nat) : Int) != ((Crc.on 0 (l.take m) : Nat) : Int)) = true := by rw [bne_iff_ne]; omega
      clear heq
      go_enter Try.func16, Try.ntmps16
      go_wp2_with (first
        | (go_at_call 24; refine (Get_ok 4 m _ hb (by decide) (by decide) (by omega)).mono ?_; rintro e w1 ⟨rfl, rfl⟩)
        | (go_at_call 12; refine (Sum_any _ ht hB).mono ?_; rintro e w1 ⟨rfl, hb1⟩; generalize Crc.on 0 (l.take m) = x at *; generalize Oct.le (Oct.cut l m 4) = y at *))
      go_ret2
      exact ⟨none, 0, rfl, OB.none_ _ _, hb1⟩

set_option maxHeartbeats 1000000 in
theorem ROpen_any {A : Option Addr} {n c B : Nat} {l : List UInt8} (w : World) (hb : RB w B A n c l) (hB : B ≤ w.heap.size) (hn : n < 140737488355000) :
    Calls Try.prog 17 #[.slice A n c] w fun e w' => ∃ A1 c1, e = .returned (.tuple #[.slice A1 (openS l).1.length c1, .int .i64 (openS l).2]) ∧ OB w' w.heap.size A1 (openS l).1.length c1 (openS l).1 ∧ Below w.heap.size w w' := by
  have hl := hb.len
  have hle := hb.le
  by_cases h4 : n < 4
  · have e : openS l = ([], 2) := by unfold openS; rw [if_pos (by omega)]
    rw [e]
    clear e
    go_enter Try.func17, Try.ntmps17
    go_wp2_with fail
    go_ret2
    exact ⟨none, 0, rfl, OB.none_ _ _, Below.refl _ _⟩
  · obtain ⟨m, rfl⟩ : ∃ m, n = m + 4 := ⟨n - 4, by omega⟩
    have e : openS l = if sealS (l.take m) = l then (l.take m, 0) else ([], 5) := by
      unfold openS
      rw [if_neg (by omega), show l.length - 4 = m by omega]
    rw [e]
    have hlt : (l.take m).length = m := by simp; omega
    have ht := hb.take (k := m) (by omega)
    clear e
    have HL := Lib.hid hl; clear hl
    have HT := Lib.hid hlt; clear hlt
    have hcv := convb_grow hb hB
    by_cases heq : sealS (l.take m) = l
    · rw [if_pos heq]
      have ht1 : (sealS (l.take m) == l) = true := by simpa using heq
      have HE := Lib.hid heq; clear heq
      go_enter Try.func17, Try.ntmps17
      go_wp2_with fail
      refine region_later (by kernel_rfl) ?_
      refine phase_later (by kernel_rfl) 3 (below_drew _) [0, 1, 5, 2, 6] rfl (by kernel_rfl) ?_
      simp only [picks, nth]
      repeat (go_big_quiet_step (fail))
      refine wpQuiet_nil ?_
      refine phase_op 3 2 rfl (by kernel_rfl) (by decide) ?_
      simp only [nth]
      go_wp2_with (go_at_call 18; refine (RSeal_any w.drew ht.drew hB (by omega)).mono ?_; rintro e w2 ⟨A2, c2, rfl, h2, hb2⟩)
      have b2 : Below w.heap.size w w2 := (below_drew w).trans hb2
      refine behind_later b2 ?_
      have e2 := convb_grow h2.rb (Nat.le_refl _)
      refine phase_later (by kernel_rfl) 0 (Below.refl _ _) [4, 7] rfl (by kernel_rfl) ?_
      simp only [picks, nth]
      repeat (go_big_quiet_step (fail))
      refine wpQuiet_nil ?_
      refine phase_end (by kernel_rfl) ?_
      go_wp2_with (at_builtin; refine wpList_appb_nil etb rfl (.tmp 20) (.tmp 23) rfl rfl rfl B (ht.below (b2.mono hB)) (by omega) (Nat.le_trans hB b2.size) ?_; intro A3 c3 w3 h3 hb3)
      go_ret2
      exact ⟨A3, c3, by rw [HT.out]; rfl, by rw [HT.out]; exact h3.more b2.size, below_step b2 hb3 (Nat.le_refl _)⟩
    · rw [if_neg heq]
      have ht1 : (sealS (l.take m) == l) = false := by simpa using heq
      clear heq
      go_enter Try.func17, Try.ntmps17
      go_wp2_with fail
      refine region_later (by kernel_rfl) ?_
      refine phase_later (by kernel_rfl) 3 (below_drew _) [0, 1, 5, 2, 6] rfl (by kernel_rfl) ?_
      simp only [picks, nth]
      repeat (go_big_quiet_step (fail))
      refine wpQuiet_nil ?_
      refine phase_op 3 2 rfl (by kernel_rfl) (by decide) ?_
      simp only [nth]
      go_wp2_with (go_at_call 18; refine (RSeal_any w.drew ht.drew hB (by omega)).mono ?_; rintro e w2 ⟨A2, c2, rfl, h2, hb2⟩)
      have b2 : Below w.heap.size w w2 := (below_drew w).trans hb2
      refine behind_later b2 ?_
      have e2 := convb_grow h2.rb (Nat.le_refl _)
      refine phase_later (by kernel_rfl) 0 (Below.refl _ _) [4, 7] rfl (by kernel_rfl) ?_
      simp only [picks, nth]
      repeat (go_big_quiet_step (fail))
      refine wpQuiet_nil ?_
      refine phase_end (by kernel_rfl) ?_
      go_wp2_with fail
      go_ret2
      exact ⟨none, 0, rfl, OB.none_ _ _, b2⟩
end Go.Proofs.Ytmilljfgnphilaa
