/-
  Walk: LexPlaces.
  Conditions: none.
-/
import Derived.Test.YtnppihlalhaldaaKnown
import Derived.Test.YtnppihlalhaldaaLexPl
import Derived.Test.YtnppihlalhaldaaLexRef2
import Derived.IntWalk
namespace Go.Proofs.Ytnppihlalhaldaa
set_option linter.unusedVariables false
set_option linter.unusedSimpArgs false
open Go.RowKit
/-- The place where the next token stands, and where what is ahead of it ends. -/
def endF (ts : List Lx.Tk) : Nat → Nat
  | 0 => 0
  | k + 1 => (ts.getD k tkz).pl + (ts.getD k tkz).text.length
theorem pl_at {s : List UInt8} {ts : List Lx.Tk} (h : Lx.Pl s 0 ts) : ∀ k, k ≤ ts.length → Lx.Pl s (endF ts k) (ts.drop k)
  | 0, _ => by rw [List.drop_zero]; exact h
  | k + 1, hk => by
    have h1 := pl_at h k (by omega)
    rw [drop_getD (ts := ts) (k := k) (by omega)] at h1
    exact (Lx.pl_step h1).2.2.2.2.2
theorem cut_text2 {s : List UInt8} {i n : Nat} {t : List UInt8} (h : (s.drop i).take n = t) : (s.take (i + n)).drop i = t := by
  rw [List.drop_take, Nat.add_sub_cancel_left]
  exact h
/-- What holds between two tokens. -/
def GapRel (s : List UInt8) (E q : Nat) (m v : Value) : Prop := ∃ (b : Bool) (j : Nat), E ≤ j ∧ j ≤ q ∧ m = .bool b ∧ v = .int .i64 j ∧ Hid (Lx.skip b (s.drop j) = s.drop q)
/-- One sign between tokens. -/
theorem gap_step {s : List UInt8} {m : Bool} {k : Nat} {t : Nat} (hk : k < s.length) (hkt : k < t) (ht : t ≤ s.length) (h : Lx.skip m (s.drop k) = s.drop t) :
    (s.getD k 0 = 10 ∧ Lx.skip false (s.drop (k + 1)) = s.drop t) ∨ (s.getD k 0 ≠ 10 ∧ (m = true ∨ s.getD k 0 = 33) ∧ Lx.skip true (s.drop (k + 1)) = s.drop t) ∨
    (s.getD k 0 ≠ 10 ∧ m = false ∧ s.getD k 0 ≠ 33 ∧ (s.getD k 0 = 32 ∨ s.getD k 0 = 9 ∨ s.getD k 0 = 13) ∧ Lx.skip false (s.drop (k + 1)) = s.drop t) := by
  rw [drop_cons hk] at h
  generalize s.getD k 0 = c at *
  by_cases h10 : c = 10
  · subst h10
    left
    refine ⟨rfl, ?_⟩
    cases m with
    | true => rwa [Lx.skip_out, Lx.skip_blank (by decide)] at h
    | false => rwa [Lx.skip_blank (by decide)] at h
  · right
    cases m with
    | true => rw [Lx.skip_in h10] at h; exact .inl ⟨h10, .inl rfl, h⟩
    | false =>
      by_cases h33 : c = 33
      · subst h33
        rw [Lx.skip_bang, Lx.skip_in (by decide)] at h
        exact .inl ⟨h10, .inr rfl, h⟩
      · right
        cases hb : Lx.blank c with
        | true =>
          rw [Lx.skip_blank hb] at h
          refine ⟨h10, rfl, h33, ?_, h⟩
          unfold Lx.blank at hb
          simp only [Bool.or_eq_true, beq_iff_eq] at hb
          rcases hb with ((h1 | h1) | h1) | h1
          · exact .inl h1
          · exact .inr (.inl h1)
          · exact absurd h1 h10
          · exact .inr (.inr h1)
        | false =>
          rw [Lx.skip_stop hb h33] at h
          have := congrArg List.length h
          simp only [List.length_cons, List.length_drop] at this
          omega
set_option maxRecDepth 100000 in
set_option maxHeartbeats 8000000 in
theorem LexPlaces_walk (W : World) (s0 : ByteArray) (ws : s0.size ≤ maxLen) : Calls Try.prog 4 #[.string s0] W fun e w' => e = .returned (.bool true) ∧ Below W.heap.size W w' := by
  obtain ⟨s, rfl⟩ := T_of s0
  have hT := T_size s
  by_cases hbig : 8192 < s.length
  · go_enter Try.func4, Try.ntmps4
    go_wp2_with fail
    refine (known16_any _).mono ?_
    rintro e w8 ⟨rfl, b8⟩
    go_wp2_with fail
    go_ret
    exact ⟨rfl, b8⟩
  have S := fun w => Scan_any s w (by omega)
  rcases Lx.scan_cases (s := s) (by omega) with ⟨ts, h1, h2, h3⟩ | ⟨x, q, h1, h2, h3⟩
  · rw [h1] at S
    replace S := Lib.hid S
    have HP := Lib.hid (pl_at h2)
    clear h1 h2
    go_enter Try.func4, Try.ntmps4
    go_wp2_with fail
    refine (S.out _).mono ?_
    rintro e w1 ⟨A1, c1, rfl, o1, b1⟩
    dsimp only at o1
    have R1 := o1.rs
    clear o1
    generalize hn : ts.length = n at *
    go_wp2_with fail
    go_loopw [2, 6, 7] (fun r v u wr => r = .bool false ∧ ∃ k : Nat, k ≤ n + 1 ∧ u = .int .i64 k ∧ v = .int .i64 (endF ts (min k n)) ∧ ∃ d, wr = w1.drewN d) (fun _ _ u _ => n + 1 - (intOf u).toNat)
    case atStart => exact ⟨rfl, 0, by omega, rfl, by rw [Nat.zero_min]; rfl, 0, rfl⟩
    case round =>
      obtain ⟨rfl, k, hk, rfl, rfl, d, rfl⟩ := hrel
      by_cases hkn : k < n
      · rw [show min k n = k by omega]
        have hP := HP.out k (by omega)
        rw [drop_getD (ts := ts) (k := k) (by omega)] at hP
        obtain ⟨g1, g2, g3, g4, g5, _⟩ := Lx.pl_step hP
        have hE : endF ts (min (k + 1) n) = (ts.getD k tkz).pl + (ts.getD k tkz).text.length := by rw [show min (k + 1) n = k + 1 by omega]; rfl
        obtain ⟨b0, o0, hA, hbB, q0, q1, q2, q3⟩ := R1.at_ hkn
        clear hP q0 q2
        generalize ts.getD k tkz = t at *
        obtain ⟨kd, tx, m, q⟩ := t
        dsimp only at *
        subst hA
        have hTx := T_size tx
        have htl := T_toList tx
        have hcut := fun w => run_T_cut s .i64 .i64 (q : Int) ((q : Int) + (tx.length : Int)) q (q + tx.length) rfl (by omega) (by omega) (by omega) (by omega) w
        rw [cut_text2 g4] at hcut
        have HSK := Lib.hid g5
        have HE := Lib.hid hE
        have hEQ : endF ts k ≤ q := g1
        have hQs : q ≤ s.length := by omega
        have i1 : (0 : Int) ≤ (k : Int) := by omega
        have i2 : (k : Int) < (n : Int) := by omega
        have i3 : ((tx.length : Int) == 0) = false := by rw [beq_eq_false_iff_ne]; omega
        have i4 : decide ((q : Int) < (endF ts k : Int)) = false := decide_eq_false (by omega)
        have i5 : decide ((s.length : Int) - (tx.length : Int) < (q : Int)) = false := decide_eq_false (by omega)
        have i6 : (tx != tx) = false := by simp
        have w1' : IntKind.i64.wrap ((q : Int) + (tx.length : Int)) = (q : Int) + (tx.length : Int) := IntWalk.i64_in _ (by omega)
        have w2' : IntKind.i64.wrap ((s.length : Int) - (tx.length : Int)) = (s.length : Int) - (tx.length : Int) := IntWalk.i64_in _ (by omega)
        clear g4 g5 hE g1
        go_wp2_with fail
        go_quiet (fail)
        clear w1' w2' i3 i4 i5 i6
        go_wp2_with fail
        go_loop [2, 10, 11] (fun r m v => r = .bool false ∧ GapRel s (endF ts k) (q) m v) (fun _ _ v => q - (intOf v).toNat)
        case atStart => exact ⟨rfl, false, endF ts k, by omega, hEQ, rfl, rfl, HSK⟩
        case round =>
          obtain ⟨rfl, b, j, hj1, hj2, rfl, rfl, hsk⟩ := hrel
          by_cases hjt : j < q
          · have hjs : j < s.length := by omega
            have hat := fun w => run_T_at s .i64 j j rfl hjs w
            have hg := gap_step hjs hjt hQs hsk.out
            have hdd := hsk.out
            clear hsk
            generalize s.getD j 0 = c at *
            rcases hg with ⟨h10, hq⟩ | ⟨h10, hm, hq⟩ | ⟨h10, rfl, h33, hc, hq⟩
            · subst h10
              have HQ := Lib.hid hq
              clear hq hdd
              cases b
              all_goals
                go_wp2_with fail
                first | (refine ⟨⟨Value.bool false, Value.bool false, Value.int .i64 ((j : Int) + 1), ⟨rfl, false, j + 1, by omega, by omega, rfl, by go_num, HQ⟩, rfl, rfl, rfl⟩, ?_⟩) | (refine ⟨⟨rfl, false, j + 1, by omega, by omega, rfl, by go_num, HQ⟩, ?_⟩)
                simp [intOf]
                omega
            · have HQ := Lib.hid hq
              have hc1 := byte_ne (k := 10) h10 rfl
              clear hq hdd
              cases b with
              | true =>
                clear hm h10
                go_wp2_with fail
                first | (refine ⟨⟨Value.bool false, Value.bool true, Value.int .i64 ((j : Int) + 1), ⟨rfl, true, j + 1, by omega, by omega, rfl, by go_num, HQ⟩, rfl, rfl, rfl⟩, ?_⟩) | (refine ⟨⟨rfl, true, j + 1, by omega, by omega, rfl, by go_num, HQ⟩, ?_⟩)
                simp [intOf]
                omega
              | false =>
                obtain rfl : c = 33 := hm.resolve_left (by decide)
                clear hm h10 hc1
                go_wp2_with fail
                first | (refine ⟨⟨Value.bool false, Value.bool true, Value.int .i64 ((j : Int) + 1), ⟨rfl, true, j + 1, by omega, by omega, rfl, by go_num, HQ⟩, rfl, rfl, rfl⟩, ?_⟩) | (refine ⟨⟨rfl, true, j + 1, by omega, by omega, rfl, by go_num, HQ⟩, ?_⟩)
                simp [intOf]
                omega
            · have HQ := Lib.hid hq
              clear hq hdd h10 h33
              rcases hc with rfl | rfl | rfl
              all_goals
                go_wp2_with fail
                first | (refine ⟨⟨Value.bool false, Value.bool false, Value.int .i64 ((j : Int) + 1), ⟨rfl, false, j + 1, by omega, by omega, rfl, by go_num, HQ⟩, rfl, rfl, rfl⟩, ?_⟩) | (refine ⟨⟨rfl, false, j + 1, by omega, by omega, rfl, by go_num, HQ⟩, ?_⟩)
                simp [intOf]
                omega
          · obtain rfl : j = q := by omega
            clear hsk
            go_wp2_with fail
            go_roundw
            case rel => exact ⟨rfl, k + 1, by omega, by go_num, by rw [HE.out]; go_num, _, rfl⟩
            case measure => simp [intOf] <;> omega
      · by_cases hkn2 : k = n
        · subst hkn2
          rw [show min k k = k by omega]
          have hP := HP.out k (by omega)
          rw [List.drop_of_length_le (by omega)] at hP
          have hEQ : endF ts k ≤ s.length := hP.1
          have HSK : Hid (Lx.skip false (s.drop (endF ts k)) = s.drop s.length) := Lib.hid (by rw [hP.2, List.drop_length])
          have hQs : s.length ≤ s.length := Nat.le_refl _
          have HE : Hid (endF ts (min (k + 1) k) = endF ts k) := Lib.hid (by rw [show min (k + 1) k = k by omega])
          clear hP hkn
          go_wp2_with fail
          go_loop [2, 10, 11] (fun r m v => r = .bool false ∧ GapRel s (endF ts k) (s.length) m v) (fun _ _ v => s.length - (intOf v).toNat)
          case atStart => exact ⟨rfl, false, endF ts k, by omega, hEQ, rfl, rfl, HSK⟩
          case round =>
            obtain ⟨rfl, b, j, hj1, hj2, rfl, rfl, hsk⟩ := hrel
            by_cases hjt : j < s.length
            · have hjs : j < s.length := by omega
              have hat := fun w => run_T_at s .i64 j j rfl hjs w
              have hg := gap_step hjs hjt hQs hsk.out
              have hdd := hsk.out
              clear hsk
              generalize s.getD j 0 = c at *
              rcases hg with ⟨h10, hq⟩ | ⟨h10, hm, hq⟩ | ⟨h10, rfl, h33, hc, hq⟩
              · subst h10
                have HQ := Lib.hid hq
                clear hq hdd
                cases b
                all_goals
                  go_wp2_with fail
                  first | (refine ⟨⟨Value.bool false, Value.bool false, Value.int .i64 ((j : Int) + 1), ⟨rfl, false, j + 1, by omega, by omega, rfl, by go_num, HQ⟩, rfl, rfl, rfl⟩, ?_⟩) | (refine ⟨⟨rfl, false, j + 1, by omega, by omega, rfl, by go_num, HQ⟩, ?_⟩)
                  simp [intOf]
                  omega
              · have HQ := Lib.hid hq
                have hc1 := byte_ne (k := 10) h10 rfl
                clear hq hdd
                cases b with
                | true =>
                  clear hm h10
                  go_wp2_with fail
                  first | (refine ⟨⟨Value.bool false, Value.bool true, Value.int .i64 ((j : Int) + 1), ⟨rfl, true, j + 1, by omega, by omega, rfl, by go_num, HQ⟩, rfl, rfl, rfl⟩, ?_⟩) | (refine ⟨⟨rfl, true, j + 1, by omega, by omega, rfl, by go_num, HQ⟩, ?_⟩)
                  simp [intOf]
                  omega
                | false =>
                  obtain rfl : c = 33 := hm.resolve_left (by decide)
                  clear hm h10 hc1
                  go_wp2_with fail
                  first | (refine ⟨⟨Value.bool false, Value.bool true, Value.int .i64 ((j : Int) + 1), ⟨rfl, true, j + 1, by omega, by omega, rfl, by go_num, HQ⟩, rfl, rfl, rfl⟩, ?_⟩) | (refine ⟨⟨rfl, true, j + 1, by omega, by omega, rfl, by go_num, HQ⟩, ?_⟩)
                  simp [intOf]
                  omega
              · have HQ := Lib.hid hq
                clear hq hdd h10 h33
                rcases hc with rfl | rfl | rfl
                all_goals
                  go_wp2_with fail
                  first | (refine ⟨⟨Value.bool false, Value.bool false, Value.int .i64 ((j : Int) + 1), ⟨rfl, false, j + 1, by omega, by omega, rfl, by go_num, HQ⟩, rfl, rfl, rfl⟩, ?_⟩) | (refine ⟨⟨rfl, false, j + 1, by omega, by omega, rfl, by go_num, HQ⟩, ?_⟩)
                  simp [intOf]
                  omega
            · obtain rfl : j = s.length := by omega
              clear hsk
              go_wp2_with fail
              go_roundw
              case rel => exact ⟨rfl, k + 1, by omega, by go_num, by rw [HE.out], _, rfl⟩
              case measure => simp [intOf] <;> omega
        · obtain rfl : k = n + 1 := by omega
          have d2 := below_step b1 (below_drewN (Below.refl w1.heap.size w1) d) (Nat.le_refl _)
          generalize w1.drewN d = w2 at *
          go_wp2_with fail
          refine (known16_any _).mono ?_
          rintro e w8 ⟨rfl, b8⟩
          go_wp2_with fail
          go_ret
          exact ⟨rfl, below_step d2 b8 (Nat.le_refl _)⟩
  · rw [h1] at S
    have hx : (x != 0) = true := by simpa using h2
    replace S := Lib.hid S
    clear h1 h2
    go_enter Try.func4, Try.ntmps4
    go_wp2_with fail
    refine (S.out _).mono ?_
    rintro e w1 ⟨A1, c1, rfl, o1, b1⟩
    dsimp only [List.length_nil] at o1
    go_wp2_with fail
    refine (known16_any _).mono ?_
    rintro e w8 ⟨rfl, b8⟩
    go_wp2_with fail
    go_ret
    exact ⟨rfl, below_step b1 b8 (Nat.le_refl _)⟩
end Go.Proofs.Ytnppihlalhaldaa
