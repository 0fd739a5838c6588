/-
  Walk: LexTexts.
  Conditions: none.
-/
import Derived.Test.YtnppihlalhaldaaKnown
import Derived.IntWalk
import Derived.Test.YtnppihlalhaldaaFoot
namespace Go.Proofs.Ytnppihlalhaldaa
set_option linter.unusedVariables false
set_option linter.unusedSimpArgs false
open Go.RowKit
theorem text_bound : ∀ {ts : List Lx.Tk}, (∀ t ∈ ts, t.text.length ≤ 500) → (Lx.textS ts).length ≤ 501 * ts.length
  | [], _ => by simp [Lx.textS]
  | [t], h => by
    have := h t (by simp)
    simp only [Lx.textS, List.length_cons, List.length_nil]
    omega
  | t :: u :: r, h => by
    have h1 := h t (by simp)
    have h2 := text_bound (ts := u :: r) (fun x hx => h x (by simp at hx ⊢; exact .inr hx))
    simp only [Lx.textS, List.length_cons, List.length_append] at h2 ⊢
    omega
theorem run_tcut (b o n c i j : Nat) (z1 z2 : Int) (h1 : z1 = (i : Int)) (h2 : z2 = (j : Int)) (hij : i ≤ j) (hj : j ≤ c) (hi : i < c) (w : World) :
    (Instr.slice 23 (.slice (some ⟨b, o, none⟩) n c) (some (.int .i64 z1)) (some (.int .i64 z2)) none).run Try.prog w = .ok (.slice (some ⟨b, o + i * 4, none⟩) (j - i) (c - i)) w := by
  subst h1 h2
  have hT : Try.prog.underlying 23 = some (.slice (Try.prog.elem 23)) := by rw [et_elem ettk]; exact ettk.sl
  rw [run_slice_lh w 23 _ n c hT .i64 .i64 (i : Int) (j : Int) (by omega) (by omega) (by omega), et_elem ettk, run_sizeOf ettk]
  simp [Result.andThen, sliced, Addr.add, show ¬ c = i by omega]
theorem like_one (a b : Lx.Tk) : Lx.sameL false [a] [b] = Lx.like a b := by simp [Lx.sameL]
set_option maxRecDepth 100000 in
set_option maxHeartbeats 8000000 in
theorem LexTexts_walk {A : Option Addr} {n c : Nat} {ts : List Lx.Tk} (W : World) (h : RTf W W.heap.size A n c ts) (ht : ∀ t ∈ ts, t.text.length ≤ 9223372036854775807) :
    Calls Try.prog 6 #[.slice A n c] W fun e w' => e = .returned (.bool true) ∧ Below W.heap.size W w' := by
  have hl := h.len
  have hn := h.lt
  by_cases hbig : 300 < n
  · go_enter Try.func6, Try.ntmps6
    go_wp2_with fail
    refine (known16_any _).mono ?_
    rintro e w8 ⟨rfl, b8⟩
    go_wp2_with fail
    go_ret
    exact ⟨rfl, b8⟩
  have HL := Lib.hid hl; have HT := Lib.hid ht
  clear hl ht
  go_enter Try.func6, Try.ntmps6
  go_wp2_with fail
  go_loopw [3] (fun i wr => ∃ k : Nat, k ≤ n ∧ i = .int .i64 k ∧ Below W.heap.size W wr ∧ Hid (∀ j, j < k → (ts.getD j tkz).text.length ≤ 500)) (fun i _ => n - (intOf i).toNat)
  case atStart => exact ⟨0, by omega, rfl, Below.refl _ _, Lib.hid fun _ h => absurd h (by omega)⟩
  case round =>
    obtain ⟨k, hk, rfl, bb, HA⟩ := hrel
    have hw := h.below bb
    by_cases hlt : k < n
    · obtain ⟨b, o, p, hA, hbB, q0, q1, q2, q3⟩ := hw.at_ hlt
      have htx : (ts.getD k tkz).text.length ≤ 9223372036854775807 := HT.out _ (by
        have : k < ts.length := by rw [HL.out]; exact hlt
        rw [List.getD_eq_getElem?_getD, List.getElem?_eq_getElem this]
        exact List.getElem_mem this)
      by_cases h500 : 500 < (ts.getD k tkz).text.length
      · generalize ts.getD k tkz = t at *
        obtain ⟨kd, tx, m, pl⟩ := t
        dsimp only at *
        have hTx := T_size tx
        subst hA
        go_wp2_with fail
        refine (known16_any _).mono ?_
        rintro e w8 ⟨rfl, b8⟩
        go_wp2_with fail
        go_ret
        exact ⟨rfl, below_step bb b8 (Nat.le_refl _)⟩
      · have HA2 : Hid (∀ j, j < k + 1 → (ts.getD j tkz).text.length ≤ 500) := Lib.hid fun j hj => by
          rcases Nat.lt_or_ge j k with h1 | h1
          · exact HA.out j h1
          · obtain rfl : j = k := by omega
            omega
        by_cases h0 : k = 0
        · subst h0
          generalize ts.getD 0 tkz = t at *
          obtain ⟨kd, tx, m, pl⟩ := t
          dsimp only at *
          have hTx := T_size tx
          subst hA
          simp only [Nat.zero_mul, Nat.add_zero] at q0 q1 q2 q3
          go_wp2_with fail
          go_quiet (fail)
          go_wp2_with fail
          go_roundw
          case rel => exact ⟨1, by omega, by go_num, below_drewN bb _, HA2⟩
          case measure => simp [intOf] <;> omega
        · obtain ⟨b', o', p', hA', hbB', q0', q1', q2', q3'⟩ := hw.at_ (i := k - 1) (by omega)
          have hle : n ≤ c := by
            obtain ⟨xs, hx, _⟩ := h
            exact hx.le
          have hc63 : c ≤ 9223372036854775807 := by
            obtain ⟨xs, hx, _⟩ := h
            exact hx.cap
          have r1 := hw.cut (i := k) hlt (A1 := some ⟨b, o + k * 4, none⟩) (c1 := c - k) (fun b1 o1 e => by rw [hA] at e; injection e with e; injection e with e1 e2; subst e1 e2; rfl) (by omega) (by omega)
          have r2 := hw.cut (i := k - 1) (by omega) (A1 := some ⟨b, o + (k - 1) * 4, none⟩) (c1 := c - (k - 1)) (fun b1 o1 e => by rw [hA] at e; injection e with e; injection e with e1 e2; subst e1 e2; rfl) (by omega) (by omega)
          rw [hA] at hA'
          injection hA' with e
          injection e with e1 e2
          subst e1 e2
          subst hA
          have hcut1 := fun w => run_tcut b o n c k (k + 1) (k : Int) ((k : Int) + 1) rfl (by omega) (by omega) (by omega) (by omega) w
          have hcut2 := fun w => run_tcut b o n c (k - 1) k ((k : Int) - 1) (k : Int) (by omega) rfl (by omega) (by omega) (by omega) w
          rw [show k + 1 - k = 1 by omega] at hcut1
          rw [show k - (k - 1) = 1 by omega] at hcut2
          have ek : (k : Int) - 1 = ((k - 1 : Nat) : Int) := by omega
          have M := fun (w : World) (hb : Below wr.heap.size wr w) => RSameF_any w (r1.below (hb.mono bb.size)) (r2.below (hb.mono bb.size))
          rw [like_one] at M
          generalize ts.getD k tkz = t at *
          generalize ts.getD (k - 1) tkz = u at *
          have C := fun w => LSame_any t u p p' w
          generalize Lx.like t u = res at *
          obtain ⟨kd, tx, m, pl⟩ := t
          obtain ⟨kd', tx', m', pl'⟩ := u
          simp only [tkV] at C
          dsimp only at *
          have hTx := T_size tx
          replace C := Lib.hid C; replace M := Lib.hid M
          replace q0 := cell_regrown q0
          have q1'' := cell_regrown q1
          replace q2 := cell_regrown q2
          replace q3 := cell_regrown q3
          replace q0' := cell_regrown q0'
          replace q1' := cell_regrown q1'
          replace q2' := cell_regrown q2'
          replace q3' := cell_regrown q3'
          have w1' : IntKind.i64.wrap ((k : Int) + 1) = (k : Int) + 1 := IntWalk.i64_in _ (by omega)
          have w2' : IntKind.i64.wrap ((k : Int) - 1) = (k : Int) - 1 := IntWalk.i64_in _ (by omega)
          have i0 : (0 : Int) ≤ (k : Int) := by omega
          have i1 : (k : Int) < (n : Int) := by omega
          have i2 : (0 : Int) ≤ (k : Int) - 1 := by omega
          have i3 : (k : Int) - 1 < (n : Int) := by omega
          have i4 : decide (0 < k) = true := decide_eq_true (by omega)
          have i5 : ((k : Int) - 1).toNat = k - 1 := by omega
          clear ek r1 r2 h0 hw
          go_wp2_with fail
          refine region_later (by kernel_rfl) ?_
          refine phase_later (by kernel_rfl) 4 (below_drew _) [0, 1, 2, 3, 4, 7, 8, 13, 14, 15, 18, 19, 21, 5, 9, 16, 20, 6, 10, 17, 22, 11] rfl (by kernel_rfl) ?_
          simp only [picks, nth]
          repeat (go_big_quiet_step (fail))
          refine wpQuiet_nil ?_
          refine phase_op 12 3 rfl (by kernel_rfl) (by decide) ?_
          simp only [nth]
          go_wp2_with (go_at_call 12; refine (C.out _).mono ?_; rintro e w5 ⟨rfl, b5⟩)
          have b6 : Below wr.heap.size wr w5 := (below_drew wr).trans b5
          refine behind_later b6 ?_
          refine phase_op 23 2 rfl (by kernel_rfl) (by decide) ?_
          simp only [nth]
          go_wp2_with (go_at_call 11; refine (M.out _ b6).mono ?_; rintro e w6 h6; obtain ⟨rfl, d6, rfl⟩ := h6)
          have b7 : Below wr.heap.size wr (w5.drewN d6) := below_drewN b6 d6
          have b7' : Below w5.heap.size w5 (w5.drewN d6) := below_drewN (Below.refl _ _) d6
          generalize w5.drewN d6 = w7 at *
          refine behind_later b7' ?_
          refine phase_later (by kernel_rfl) 0 (Below.refl _ _) [24, 25] rfl (by kernel_rfl) ?_
          simp only [picks, nth]
          repeat (go_big_quiet_step (fail))
          refine wpQuiet_nil ?_
          refine phase_end (by kernel_rfl) ?_
          have b8 := below_step bb b7 (Nat.le_refl _)
          go_wp2_with fail
          go_roundw
          case rel => exact ⟨k + 1, by omega, by go_num, b8, HA2⟩
          case measure => simp [intOf] <;> omega
    · obtain rfl : k = n := by omega
      have hbd := text_bound (ts := ts) (fun t ht => by
        obtain ⟨i, hi, rfl⟩ := List.getElem_of_mem ht
        have := HA.out i (by rw [← HL.out]; exact hi)
        rwa [List.getD_eq_getElem?_getD, List.getElem?_eq_getElem hi] at this)
      have X1 := Text_any _ hw (by have := HL.out; omega) (by omega) bb.size
      have X2 := fun (w : World) (hb : Below wr.heap.size wr w) => RText_any w (hw.below (hb.mono bb.size)) (by have := HL.out; omega) (by omega)
      have hxl := T_toList (Lx.textS ts)
      generalize Lx.textS ts = txt at *
      replace X1 := Lib.hid X1; replace X2 := Lib.hid X2
      clear hbd
      go_wp2_with fail
      refine (X1.out).mono ?_
      rintro e w1 ⟨rfl, b1⟩
      have d1 := below_step bb b1 (Nat.le_refl _)
      go_wp2_with fail
      refine (X2.out _ b1).mono ?_
      rintro e w2 ⟨rfl, rfl⟩
      go_wp2_with fail
      refine (known16_any _).mono ?_
      rintro e w8 ⟨rfl, b8⟩
      go_wp2_with fail
      go_ret
      exact ⟨rfl, below_step d1 b8 (Nat.le_refl _)⟩
end Go.Proofs.Ytnppihlalhaldaa
