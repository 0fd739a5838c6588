/-
  Walk: FrameBack.
  Conditions: none.
-/
import Derived.Test.YthfhhkjnmpiieaaKnown
import Derived.Test.YthfhhkjnmpiieaaFrmLight
namespace Go.Proofs.Ythfhhkjnmpiieaa
set_option linter.unusedVariables false
set_option linter.unusedSimpArgs false
open Go.ChangeShapes Go.WideShapes Go.ChangeAt Go.RowKit
theorem textF_length : ∀ (l : List Can.Fr) (t : List UInt8), (Can.textF l t).1.length ≤ t.length + 21 * l.length
  | [], t => by simp [Can.textF]
  | f :: l, t => by
    have h1 := Can.showS_length f
    simp only [Can.textF]
    split
    · have := textF_length l (t ++ ((Can.showS f).1 ++ [10]))
      simp only [List.length_append, List.length_cons, List.length_nil] at *
      omega
    · simp
theorem parse_nil : Can.parseS [] = (Can.zero, 4) := by kernel_rfl
section
variable {A : Option Addr} {n c : Nat} {fs : List Can.Fr}
set_option maxRecDepth 100000 in
set_option maxHeartbeats 8000000 in
theorem FrameBack_walk (W : World) (h : RF W W.heap.size A n c fs) (t : ByteArray) (wt : t.size ≤ maxLen) :
    Calls Try.prog 7 #[.slice A n c, .string t] W fun e w' => e = .returned (.bool true) ∧ Below W.heap.size W w' := by
  obtain ⟨s, rfl⟩ := T_of t
  have hts := T_size s
  have HTS := Lib.hid hts
  have hfl := h.len
  have HFL := Lib.hid hfl; clear hfl
  go_enter Try.func7, Try.ntmps7
  go_wp2_with fail
  refine (light_any _ h).mono ?_
  rintro e w0 ⟨b, rfl, rfl, hl⟩
  cases b with
  | false =>
    clear hl
    go_wp2_with fail
    refine (known_any _).mono ?_
    rintro e w1 ⟨rfl, b1⟩
    go_wp2_with fail
    go_ret
    exact ⟨rfl, b1⟩
  | true =>
    obtain ⟨hn, _⟩ := hl rfl
    clear hl
    by_cases hbig : 1000 < s.length
    · go_wp2_with fail
      refine (known_any _).mono ?_
      rintro e w1 ⟨rfl, b1⟩
      go_wp2_with fail
      go_ret
      exact ⟨rfl, b1⟩
    have htl := textF_length fs []
    rw [HFL.out] at htl
    have C1 := Lib.hid (fun w (h : RF w W.heap.size A n c fs) hB => Text_any w h hB (by omega))
    change (Can.textS fs).1.length ≤ _ at htl
    generalize hx : Can.textS fs = x at *
    obtain ⟨x, xe⟩ := x
    dsimp only at *
    have HX := Lib.hid hx; clear hx
    by_cases hxe : xe = 0
    · subst hxe
      have C2 := Lib.hid (fun w => Lines_any x w (by simp at htl; omega))
      have hlx := Can.lines_text HX.out
      rw [hlx] at C2
      clear hlx
      go_wp2_with fail
      refine (C1.out _ h (Nat.le_refl _)).mono ?_
      rintro e w1 ⟨rfl, b1⟩
      go_wp2_with fail
      refine (C2.out _).mono ?_
      rintro e w2 ⟨A2, c2, he, o2, b2⟩
      dsimp only at he o2
      rw [HFL.out] at he o2
      subst he
      have d2 := below_step b1 b2 (Nat.le_refl _)
      go_wp2_with fail
      refine (All_any _ (h.below d2) o2.rf d2.size (Nat.le_refl _)).mono ?_
      rintro e w3 ⟨rfl, b3⟩
      have d3 := below_step d2 b3 (Nat.le_refl _)
      go_wp2_with fail
      have D := d3
      clear d3 b1 b2 b3 d2 o2 C1 C2 HX
      go_loopw [10] (fun i wr => ∃ k : Nat, k ≤ n ∧ i = .int .i64 k ∧ Below W.heap.size W wr) (fun i _ => n - (intOf i).toNat)
      case atStart => exact ⟨0, by omega, rfl, D⟩
      case round =>
        clear D
        obtain ⟨k, hk, rfl, hbel⟩ := hrel
        have hz := hbel.size
        by_cases hlt : k < n
        · obtain ⟨b, o, A1, n1, c1, rfl, hbB, q0, q1, q2, hr⟩ := (h.below hbel).at_ hlt
          generalize fs.getD k Can.zero = f at *
          obtain ⟨fi, fr, fd⟩ := f
          dsimp only at *
          obtain rfl : fd.length = n1 := hr.len
          have hfd := hr.lt
          have C4 := Lib.hid (fun w (h : RB w W.heap.size A1 fd.length c1 fd) hB => Show_any fi fr w h hB)
          have C6 := Lib.hid (fun w => Check_any fi fr (A := A1) (n := fd.length) (c := c1) w hfd)
          by_cases hck : Can.check ⟨fi, fr, fd⟩ = 0
          · have hps := Can.parse_show hck
            have hse := Can.showS_err ⟨fi, fr, fd⟩
            have hsl := Can.showS_length ⟨fi, fr, fd⟩
            rw [hck] at hse
            have hck' : Can.checkN fi fr fd.length = 0 := hck
            rw [hck'] at C6
            generalize Can.showS ⟨fi, fr, fd⟩ = y at *
            obtain ⟨y, ye⟩ := y
            dsimp only at *
            subst hse
            have C5 := Lib.hid (fun w => Parse_any y w (by omega))
            rw [hps] at C5
            have SR := Lib.hid (Can.sameB_refl ⟨fi, fr, fd⟩)
            clear hck hck' hps
            go_wp2_with fail
            refine (C4.out _ hr hz).mono ?_
            rintro e w4 ⟨rfl, b4⟩
            have d4 := below_step hbel b4 (Nat.le_refl _)
            have HBC := Lib.hid (bcell b4)
            go_wp2_with fail
            refine (C5.out _).mono ?_
            rintro e w5 ⟨A5, c5, he, o5, b5⟩
            dsimp only at he o5
            subst he
            have d5 := below_step d4 b5 (Nat.le_refl _)
            have b45 := below_step b4 b5 (Nat.le_refl _)
            have b456 := below_step b45 (alloc_one w5 (.cells #[.int .i64 fi, .bool fr, .slice A5 fd.length c5] 24)) (Nat.le_refl _)
            have K := Blk.new w5 24 #[.int .i64 fi, .bool fr, .slice A5 fd.length c5]
            have F := K.three3
            have Q : ∀ (d : Nat) (os : Array Obj), (Sort.grow (redrawn (w5.alloc (.cells #[.int .i64 fi, .bool fr, .slice A5 fd.length c5] 24)) d) os).cell? ⟨b, o + k * 3, none⟩ = some (.int .i64 fi) ∧ (Sort.grow (redrawn (w5.alloc (.cells #[.int .i64 fi, .bool fr, .slice A5 fd.length c5] 24)) d) os).cell? ⟨b, o + k * 3 + 1, none⟩ = some (.bool fr) ∧ (Sort.grow (redrawn (w5.alloc (.cells #[.int .i64 fi, .bool fr, .slice A5 fd.length c5] 24)) d) os).cell? ⟨b, o + k * 3 + 2, none⟩ = some (.slice A1 fd.length c1) := fun d os =>
              ⟨cell_regrown ((b456.cell (p := ⟨b, o + k * 3, none⟩) (by show b < _; omega)).trans q0) d os, cell_regrown ((b456.cell (p := ⟨b, o + k * 3 + 1, none⟩) (by show b < _; omega)).trans q1) d os, cell_regrown ((b456.cell (p := ⟨b, o + k * 3 + 2, none⟩) (by show b < _; omega)).trans q2) d os⟩
            have o6 := o5.alloc (.cells #[.int .i64 fi, .bool fr, .slice A5 fd.length c5] 24)
            have d6 := below_step d5 (alloc_one w5 (.cells #[.int .i64 fi, .bool fr, .slice A5 fd.length c5] 24)) (Nat.le_refl _)
            have r6 := h.below d6
            clear q0 q1 q2
            go_wp2_with fail
            generalize hW6 : w5.alloc (.cells #[.int .i64 fi, .bool fr, .slice A5 fd.length c5] 24) = w6 at *
            have HW6 := Lib.hid hW6; clear hW6
            refine region_later (by kernel_rfl) ?_
            refine phase_later (by kernel_rfl) 20 (below_drew _) [0, 2, 3, 1, 4, 5] rfl (by kernel_rfl) ?_
            simp only [picks, nth]
            repeat (go_big_quiet_step (fail))
            refine wpQuiet_nil ?_
            refine phase_op 6 19 rfl (by kernel_rfl) (by decide) ?_
            simp only [nth]
            go_wp2_with fail
            refine (C6.out _).mono ?_
            rintro e w7 ⟨rfl, b7⟩
            have b7' := below_step (below_drew w6) b7 (Nat.le_refl _)
            have d7 := below_step d6 b7' (Nat.le_refl _)
            replace K := K.later b7'
            replace F := K.three3
            have Q7 : ∀ (d : Nat) (os : Array Obj), (Sort.grow (redrawn w7 d) os).cell? ⟨b, o + k * 3, none⟩ = some (.int .i64 fi) ∧ (Sort.grow (redrawn w7 d) os).cell? ⟨b, o + k * 3 + 1, none⟩ = some (.bool fr) ∧ (Sort.grow (redrawn w7 d) os).cell? ⟨b, o + k * 3 + 2, none⟩ = some (.slice A1 fd.length c1) := fun d os =>
              ⟨cell_regrown ((b7'.cell (p := ⟨b, o + k * 3, none⟩) (by have := d6.size; show b < _; omega)).trans (Q 0 #[]).1) d os, cell_regrown ((b7'.cell (p := ⟨b, o + k * 3 + 1, none⟩) (by have := d6.size; show b < _; omega)).trans (Q 0 #[]).2.1) d os, cell_regrown ((b7'.cell (p := ⟨b, o + k * 3 + 2, none⟩) (by have := d6.size; show b < _; omega)).trans (Q 0 #[]).2.2) d os⟩
            go_wp2_with fail
            refine behind_later b7' ?_
            refine phase_later (by kernel_rfl) 5 (Below.refl _ _) [7, 8, 9, 10, 11, 12, 13, 14, 15, 16, 17, 18, 19, 20] rfl (by kernel_rfl) ?_
            simp only [picks, nth]
            repeat (go_big_quiet_step (fail))
            refine wpQuiet_nil ?_
            refine phase_op 21 4 rfl (by kernel_rfl) (by decide) ?_
            simp only [nth]
            go_wp2_with fail
            refine (Same_any fi fr fi fr _ (o6.below b7').rb (hr.below (below_step (below_step b456 b7' (Nat.le_refl _)) (Below.refl _ _) (Nat.le_refl _) |>.mono hz)) (Nat.le_refl _) d7.size).mono ?_
            rintro e w8 ⟨he, b8⟩
            rw [SR.out] at he
            subst he
            go_wp2_with fail
            refine behind_later b8 ?_
            refine phase_later (by kernel_rfl) 0 (Below.refl _ _) [22, 23, 24, 25] rfl (by kernel_rfl) ?_
            simp only [picks, nth]
            repeat (go_big_quiet_step (fail))
            refine wpQuiet_nil ?_
            refine phase_end (by kernel_rfl) ?_
            go_wp2_with fail
            go_roundw
            case rel => exact ⟨k + 1, by omega, by go_num, below_step d7 b8 (Nat.le_refl _)⟩
            case measure => simp [intOf] <;> omega
          · have hse := showS_bad (f := ⟨fi, fr, fd⟩) hck
            have hck' : Can.checkN fi fr fd.length ≠ 0 := hck
            change Can.showS ⟨fi, fr, fd⟩ = ([], Can.checkN fi fr fd.length) at hse
            rw [hse] at C4
            generalize Can.checkN fi fr fd.length = v at *
            have hvb : (v == 0) = false := by simpa using hck'
            have C5 := Lib.hid (fun w => Parse_any [] w (by decide))
            rw [parse_nil] at C5
            clear hck hck' hse
            go_wp2_with fail
            refine (C4.out _ hr hz).mono ?_
            rintro e w4 ⟨rfl, b4⟩
            have d4 := below_step hbel b4 (Nat.le_refl _)
            go_wp2_with fail
            refine (C5.out _).mono ?_
            rintro e w5 ⟨A5, c5, he, o5, b5⟩
            dsimp only [Can.zero] at he o5
            subst he
            have d5 := below_step d4 b5 (Nat.le_refl _)
            have b45 := below_step b4 b5 (Nat.le_refl _)
            have b456 := below_step b45 (alloc_one w5 (.cells #[.int .i64 0, .bool false, .slice A5 0 c5] 24)) (Nat.le_refl _)
            have Q : ∀ (d : Nat) (os : Array Obj), (Sort.grow (redrawn (w5.alloc (.cells #[.int .i64 0, .bool false, .slice A5 0 c5] 24)) d) os).cell? ⟨b, o + k * 3, none⟩ = some (.int .i64 fi) ∧ (Sort.grow (redrawn (w5.alloc (.cells #[.int .i64 0, .bool false, .slice A5 0 c5] 24)) d) os).cell? ⟨b, o + k * 3 + 1, none⟩ = some (.bool fr) ∧ (Sort.grow (redrawn (w5.alloc (.cells #[.int .i64 0, .bool false, .slice A5 0 c5] 24)) d) os).cell? ⟨b, o + k * 3 + 2, none⟩ = some (.slice A1 fd.length c1) := fun d os =>
              ⟨cell_regrown ((b456.cell (p := ⟨b, o + k * 3, none⟩) (by show b < _; omega)).trans q0) d os, cell_regrown ((b456.cell (p := ⟨b, o + k * 3 + 1, none⟩) (by show b < _; omega)).trans q1) d os, cell_regrown ((b456.cell (p := ⟨b, o + k * 3 + 2, none⟩) (by show b < _; omega)).trans q2) d os⟩
            have d6 := below_step d5 (alloc_one w5 (.cells #[.int .i64 0, .bool false, .slice A5 0 c5] 24)) (Nat.le_refl _)
            clear q0 q1 q2 o5
            go_wp2_with fail
            generalize hW6 : w5.alloc (.cells #[.int .i64 0, .bool false, .slice A5 0 c5] 24) = w6 at *
            have HW6 := Lib.hid hW6; clear hW6
            refine region_later (by kernel_rfl) ?_
            refine phase_later (by kernel_rfl) 20 (below_drew _) [0, 2, 3, 1, 4, 5] rfl (by kernel_rfl) ?_
            simp only [picks, nth]
            repeat (go_big_quiet_step (fail))
            refine wpQuiet_nil ?_
            refine phase_op 6 19 rfl (by kernel_rfl) (by decide) ?_
            simp only [nth]
            go_wp2_with fail
            refine (C6.out _).mono ?_
            rintro e w7 ⟨rfl, b7⟩
            have b7' := below_step (below_drew w6) b7 (Nat.le_refl _)
            have d7 := below_step d6 b7' (Nat.le_refl _)
            go_wp2_with fail
            refine behind_later b7' ?_
            refine phase_later (by kernel_rfl) 5 (Below.refl _ _) [7, 8, 9, 10, 11, 12, 13, 14, 15, 16, 17, 18, 19, 20] rfl (by kernel_rfl) ?_
            simp only [picks, nth]
            repeat (go_big_quiet_step (fail))
            refine wpQuiet_nil ?_
            refine phase_op 21 4 rfl (by kernel_rfl) (by decide) ?_
            simp only [nth]
            go_wp2_with fail
            refine behind_later (Below.refl _ _) ?_
            refine phase_later (by kernel_rfl) 0 (Below.refl _ _) [22, 23, 24, 25] rfl (by kernel_rfl) ?_
            simp only [picks, nth]
            repeat (go_big_quiet_step (fail))
            refine wpQuiet_nil ?_
            refine phase_end (by kernel_rfl) ?_
            go_wp2_with fail
            go_roundw
            case rel => exact ⟨k + 1, by omega, by go_num, d7⟩
            case measure => simp [intOf] <;> omega
        · obtain rfl : k = n := by omega
          have C7 := Lib.hid (fun w => Parse_any s w (by omega))
          have hsp := fun f => @Can.show_parse s f
          generalize hps : Can.parseS s = p at *
          obtain ⟨⟨pi, pr, pd⟩, pe⟩ := p
          by_cases hpe : pe = 0
          · subst hpe
            have hsp' := hsp ⟨pi, pr, pd⟩ rfl
            have C8 := Lib.hid (fun (w : World) (A : Option Addr) (c : Nat) (h : RB w w.heap.size A pd.length c pd) => Show_any pi pr w h (Nat.le_refl _))
            rw [hsp'] at C8
            have hT := T_toList s
            clear hsp hsp' hps
            go_wp2_with fail
            refine (C7.out _).mono ?_
            rintro e w4 ⟨A4, c4, rfl, o4, b4⟩
            have d4 := below_step hbel b4 (Nat.le_refl _)
            go_wp2_with fail
            refine (C8.out _ _ _ (o4.alloc _).rb).mono ?_
            rintro e w5 ⟨rfl, b5⟩
            have d5 := below_step (below_step d4 (alloc_one w4 _) (Nat.le_refl _)) b5 (Nat.le_refl _)
            go_wp2_with fail
            refine (known_any _).mono ?_
            rintro e w6 ⟨rfl, b6⟩
            go_wp2_with fail
            go_ret
            exact ⟨rfl, below_step d5 b6 (Nat.le_refl _)⟩
          · have hpb : (pe == 0) = false := by simpa using hpe
            clear hsp hps
            go_wp2_with fail
            refine (C7.out _).mono ?_
            rintro e w4 ⟨A4, c4, rfl, o4, b4⟩
            have d4 := below_step hbel b4 (Nat.le_refl _)
            go_wp2_with fail
            refine (known_any _).mono ?_
            rintro e w6 ⟨rfl, b6⟩
            go_wp2_with fail
            go_ret
            exact ⟨rfl, below_step (below_step d4 (alloc_one w4 _) (Nat.le_refl _)) b6 (Nat.le_refl _)⟩
    · have hxb : (xe == 0) = false := by simpa using hxe
      go_wp2_with fail
      refine (C1.out _ h (Nat.le_refl _)).mono ?_
      rintro e w1 ⟨rfl, b1⟩
      go_wp2_with fail
      have D := b1
      clear b1 C1 HX
      go_loopw [10] (fun i wr => ∃ k : Nat, k ≤ n ∧ i = .int .i64 k ∧ Below W.heap.size W wr) (fun i _ => n - (intOf i).toNat)
      case atStart => exact ⟨0, by omega, rfl, D⟩
      case round =>
        clear D
        obtain ⟨k, hk, rfl, hbel⟩ := hrel
        have hz := hbel.size
        by_cases hlt : k < n
        · obtain ⟨b, o, A1, n1, c1, rfl, hbB, q0, q1, q2, hr⟩ := (h.below hbel).at_ hlt
          generalize fs.getD k Can.zero = f at *
          obtain ⟨fi, fr, fd⟩ := f
          dsimp only at *
          obtain rfl : fd.length = n1 := hr.len
          have hfd := hr.lt
          have C4 := Lib.hid (fun w (h : RB w W.heap.size A1 fd.length c1 fd) hB => Show_any fi fr w h hB)
          have C6 := Lib.hid (fun w => Check_any fi fr (A := A1) (n := fd.length) (c := c1) w hfd)
          by_cases hck : Can.check ⟨fi, fr, fd⟩ = 0
          · have hps := Can.parse_show hck
            have hse := Can.showS_err ⟨fi, fr, fd⟩
            have hsl := Can.showS_length ⟨fi, fr, fd⟩
            rw [hck] at hse
            have hck' : Can.checkN fi fr fd.length = 0 := hck
            rw [hck'] at C6
            generalize Can.showS ⟨fi, fr, fd⟩ = y at *
            obtain ⟨y, ye⟩ := y
            dsimp only at *
            subst hse
            have C5 := Lib.hid (fun w => Parse_any y w (by omega))
            rw [hps] at C5
            have SR := Lib.hid (Can.sameB_refl ⟨fi, fr, fd⟩)
            clear hck hck' hps
            go_wp2_with fail
            refine (C4.out _ hr hz).mono ?_
            rintro e w4 ⟨rfl, b4⟩
            have d4 := below_step hbel b4 (Nat.le_refl _)
            have HBC := Lib.hid (bcell b4)
            go_wp2_with fail
            refine (C5.out _).mono ?_
            rintro e w5 ⟨A5, c5, he, o5, b5⟩
            dsimp only at he o5
            subst he
            have d5 := below_step d4 b5 (Nat.le_refl _)
            have b45 := below_step b4 b5 (Nat.le_refl _)
            have b456 := below_step b45 (alloc_one w5 (.cells #[.int .i64 fi, .bool fr, .slice A5 fd.length c5] 24)) (Nat.le_refl _)
            have K := Blk.new w5 24 #[.int .i64 fi, .bool fr, .slice A5 fd.length c5]
            have F := K.three3
            have Q : ∀ (d : Nat) (os : Array Obj), (Sort.grow (redrawn (w5.alloc (.cells #[.int .i64 fi, .bool fr, .slice A5 fd.length c5] 24)) d) os).cell? ⟨b, o + k * 3, none⟩ = some (.int .i64 fi) ∧ (Sort.grow (redrawn (w5.alloc (.cells #[.int .i64 fi, .bool fr, .slice A5 fd.length c5] 24)) d) os).cell? ⟨b, o + k * 3 + 1, none⟩ = some (.bool fr) ∧ (Sort.grow (redrawn (w5.alloc (.cells #[.int .i64 fi, .bool fr, .slice A5 fd.length c5] 24)) d) os).cell? ⟨b, o + k * 3 + 2, none⟩ = some (.slice A1 fd.length c1) := fun d os =>
              ⟨cell_regrown ((b456.cell (p := ⟨b, o + k * 3, none⟩) (by show b < _; omega)).trans q0) d os, cell_regrown ((b456.cell (p := ⟨b, o + k * 3 + 1, none⟩) (by show b < _; omega)).trans q1) d os, cell_regrown ((b456.cell (p := ⟨b, o + k * 3 + 2, none⟩) (by show b < _; omega)).trans q2) d os⟩
            have o6 := o5.alloc (.cells #[.int .i64 fi, .bool fr, .slice A5 fd.length c5] 24)
            have d6 := below_step d5 (alloc_one w5 (.cells #[.int .i64 fi, .bool fr, .slice A5 fd.length c5] 24)) (Nat.le_refl _)
            have r6 := h.below d6
            clear q0 q1 q2
            go_wp2_with fail
            generalize hW6 : w5.alloc (.cells #[.int .i64 fi, .bool fr, .slice A5 fd.length c5] 24) = w6 at *
            have HW6 := Lib.hid hW6; clear hW6
            refine region_later (by kernel_rfl) ?_
            refine phase_later (by kernel_rfl) 20 (below_drew _) [0, 2, 3, 1, 4, 5] rfl (by kernel_rfl) ?_
            simp only [picks, nth]
            repeat (go_big_quiet_step (fail))
            refine wpQuiet_nil ?_
            refine phase_op 6 19 rfl (by kernel_rfl) (by decide) ?_
            simp only [nth]
            go_wp2_with fail
            refine (C6.out _).mono ?_
            rintro e w7 ⟨rfl, b7⟩
            have b7' := below_step (below_drew w6) b7 (Nat.le_refl _)
            have d7 := below_step d6 b7' (Nat.le_refl _)
            replace K := K.later b7'
            replace F := K.three3
            have Q7 : ∀ (d : Nat) (os : Array Obj), (Sort.grow (redrawn w7 d) os).cell? ⟨b, o + k * 3, none⟩ = some (.int .i64 fi) ∧ (Sort.grow (redrawn w7 d) os).cell? ⟨b, o + k * 3 + 1, none⟩ = some (.bool fr) ∧ (Sort.grow (redrawn w7 d) os).cell? ⟨b, o + k * 3 + 2, none⟩ = some (.slice A1 fd.length c1) := fun d os =>
              ⟨cell_regrown ((b7'.cell (p := ⟨b, o + k * 3, none⟩) (by have := d6.size; show b < _; omega)).trans (Q 0 #[]).1) d os, cell_regrown ((b7'.cell (p := ⟨b, o + k * 3 + 1, none⟩) (by have := d6.size; show b < _; omega)).trans (Q 0 #[]).2.1) d os, cell_regrown ((b7'.cell (p := ⟨b, o + k * 3 + 2, none⟩) (by have := d6.size; show b < _; omega)).trans (Q 0 #[]).2.2) d os⟩
            go_wp2_with fail
            refine behind_later b7' ?_
            refine phase_later (by kernel_rfl) 5 (Below.refl _ _) [7, 8, 9, 10, 11, 12, 13, 14, 15, 16, 17, 18, 19, 20] rfl (by kernel_rfl) ?_
            simp only [picks, nth]
            repeat (go_big_quiet_step (fail))
            refine wpQuiet_nil ?_
            refine phase_op 21 4 rfl (by kernel_rfl) (by decide) ?_
            simp only [nth]
            go_wp2_with fail
            refine (Same_any fi fr fi fr _ (o6.below b7').rb (hr.below (below_step (below_step b456 b7' (Nat.le_refl _)) (Below.refl _ _) (Nat.le_refl _) |>.mono hz)) (Nat.le_refl _) d7.size).mono ?_
            rintro e w8 ⟨he, b8⟩
            rw [SR.out] at he
            subst he
            go_wp2_with fail
            refine behind_later b8 ?_
            refine phase_later (by kernel_rfl) 0 (Below.refl _ _) [22, 23, 24, 25] rfl (by kernel_rfl) ?_
            simp only [picks, nth]
            repeat (go_big_quiet_step (fail))
            refine wpQuiet_nil ?_
            refine phase_end (by kernel_rfl) ?_
            go_wp2_with fail
            go_roundw
            case rel => exact ⟨k + 1, by omega, by go_num, below_step d7 b8 (Nat.le_refl _)⟩
            case measure => simp [intOf] <;> omega
          · have hse := showS_bad (f := ⟨fi, fr, fd⟩) hck
            have hck' : Can.checkN fi fr fd.length ≠ 0 := hck
            change Can.showS ⟨fi, fr, fd⟩ = ([], Can.checkN fi fr fd.length) at hse
            rw [hse] at C4
            generalize Can.checkN fi fr fd.length = v at *
            have hvb : (v == 0) = false := by simpa using hck'
            have C5 := Lib.hid (fun w => Parse_any [] w (by decide))
            rw [parse_nil] at C5
            clear hck hck' hse
            go_wp2_with fail
            refine (C4.out _ hr hz).mono ?_
            rintro e w4 ⟨rfl, b4⟩
            have d4 := below_step hbel b4 (Nat.le_refl _)
            go_wp2_with fail
            refine (C5.out _).mono ?_
            rintro e w5 ⟨A5, c5, he, o5, b5⟩
            dsimp only [Can.zero] at he o5
            subst he
            have d5 := below_step d4 b5 (Nat.le_refl _)
            have b45 := below_step b4 b5 (Nat.le_refl _)
            have b456 := below_step b45 (alloc_one w5 (.cells #[.int .i64 0, .bool false, .slice A5 0 c5] 24)) (Nat.le_refl _)
            have Q : ∀ (d : Nat) (os : Array Obj), (Sort.grow (redrawn (w5.alloc (.cells #[.int .i64 0, .bool false, .slice A5 0 c5] 24)) d) os).cell? ⟨b, o + k * 3, none⟩ = some (.int .i64 fi) ∧ (Sort.grow (redrawn (w5.alloc (.cells #[.int .i64 0, .bool false, .slice A5 0 c5] 24)) d) os).cell? ⟨b, o + k * 3 + 1, none⟩ = some (.bool fr) ∧ (Sort.grow (redrawn (w5.alloc (.cells #[.int .i64 0, .bool false, .slice A5 0 c5] 24)) d) os).cell? ⟨b, o + k * 3 + 2, none⟩ = some (.slice A1 fd.length c1) := fun d os =>
              ⟨cell_regrown ((b456.cell (p := ⟨b, o + k * 3, none⟩) (by show b < _; omega)).trans q0) d os, cell_regrown ((b456.cell (p := ⟨b, o + k * 3 + 1, none⟩) (by show b < _; omega)).trans q1) d os, cell_regrown ((b456.cell (p := ⟨b, o + k * 3 + 2, none⟩) (by show b < _; omega)).trans q2) d os⟩
            have d6 := below_step d5 (alloc_one w5 (.cells #[.int .i64 0, .bool false, .slice A5 0 c5] 24)) (Nat.le_refl _)
            clear q0 q1 q2 o5
            go_wp2_with fail
            generalize hW6 : w5.alloc (.cells #[.int .i64 0, .bool false, .slice A5 0 c5] 24) = w6 at *
            have HW6 := Lib.hid hW6; clear hW6
            refine region_later (by kernel_rfl) ?_
            refine phase_later (by kernel_rfl) 20 (below_drew _) [0, 2, 3, 1, 4, 5] rfl (by kernel_rfl) ?_
            simp only [picks, nth]
            repeat (go_big_quiet_step (fail))
            refine wpQuiet_nil ?_
            refine phase_op 6 19 rfl (by kernel_rfl) (by decide) ?_
            simp only [nth]
            go_wp2_with fail
            refine (C6.out _).mono ?_
            rintro e w7 ⟨rfl, b7⟩
            have b7' := below_step (below_drew w6) b7 (Nat.le_refl _)
            have d7 := below_step d6 b7' (Nat.le_refl _)
            go_wp2_with fail
            refine behind_later b7' ?_
            refine phase_later (by kernel_rfl) 5 (Below.refl _ _) [7, 8, 9, 10, 11, 12, 13, 14, 15, 16, 17, 18, 19, 20] rfl (by kernel_rfl) ?_
            simp only [picks, nth]
            repeat (go_big_quiet_step (fail))
            refine wpQuiet_nil ?_
            refine phase_op 21 4 rfl (by kernel_rfl) (by decide) ?_
            simp only [nth]
            go_wp2_with fail
            refine behind_later (Below.refl _ _) ?_
            refine phase_later (by kernel_rfl) 0 (Below.refl _ _) [22, 23, 24, 25] rfl (by kernel_rfl) ?_
            simp only [picks, nth]
            repeat (go_big_quiet_step (fail))
            refine wpQuiet_nil ?_
            refine phase_end (by kernel_rfl) ?_
            go_wp2_with fail
            go_roundw
            case rel => exact ⟨k + 1, by omega, by go_num, d7⟩
            case measure => simp [intOf] <;> omega
        · obtain rfl : k = n := by omega
          have C7 := Lib.hid (fun w => Parse_any s w (by omega))
          have hsp := fun f => @Can.show_parse s f
          generalize hps : Can.parseS s = p at *
          obtain ⟨⟨pi, pr, pd⟩, pe⟩ := p
          by_cases hpe : pe = 0
          · subst hpe
            have hsp' := hsp ⟨pi, pr, pd⟩ rfl
            have C8 := Lib.hid (fun (w : World) (A : Option Addr) (c : Nat) (h : RB w w.heap.size A pd.length c pd) => Show_any pi pr w h (Nat.le_refl _))
            rw [hsp'] at C8
            have hT := T_toList s
            clear hsp hsp' hps
            go_wp2_with fail
            refine (C7.out _).mono ?_
            rintro e w4 ⟨A4, c4, rfl, o4, b4⟩
            have d4 := below_step hbel b4 (Nat.le_refl _)
            go_wp2_with fail
            refine (C8.out _ _ _ (o4.alloc _).rb).mono ?_
            rintro e w5 ⟨rfl, b5⟩
            have d5 := below_step (below_step d4 (alloc_one w4 _) (Nat.le_refl _)) b5 (Nat.le_refl _)
            go_wp2_with fail
            refine (known_any _).mono ?_
            rintro e w6 ⟨rfl, b6⟩
            go_wp2_with fail
            go_ret
            exact ⟨rfl, below_step d5 b6 (Nat.le_refl _)⟩
          · have hpb : (pe == 0) = false := by simpa using hpe
            clear hsp hps
            go_wp2_with fail
            refine (C7.out _).mono ?_
            rintro e w4 ⟨A4, c4, rfl, o4, b4⟩
            have d4 := below_step hbel b4 (Nat.le_refl _)
            go_wp2_with fail
            refine (known_any _).mono ?_
            rintro e w6 ⟨rfl, b6⟩
            go_wp2_with fail
            go_ret
            exact ⟨rfl, below_step (below_step d4 (alloc_one w4 _) (Nat.le_refl _)) b6 (Nat.le_refl _)⟩
end
end Go.Proofs.Ythfhhkjnmpiieaa
