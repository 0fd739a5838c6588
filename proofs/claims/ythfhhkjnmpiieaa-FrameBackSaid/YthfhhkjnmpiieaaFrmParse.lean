/-
  Walks: frame.Parse, and the reference's.
  Conditions: none.
-/
import Derived.Test.YthfhhkjnmpiieaaFrmId
namespace Go.Proofs.Ythfhhkjnmpiieaa
set_option linter.unusedVariables false
set_option linter.unusedSimpArgs false
open Go.RowKit
/-- A frame is handed back, its bytes in new memory. -/
def ParsePost (p : Can.Fr × Int) (w : World) (e : Ending) (w' : World) : Prop :=
  ∃ A c, e = .returned (.tuple #[.agg #[.int .i64 p.1.id, .bool p.1.rem, .slice A p.1.data.length c], .int .i64 p.2]) ∧ OB w' w.heap.size A p.1.data.length c p.1.data ∧ Below w.heap.size w w'
theorem parse_zero {p : Can.Fr × Int} {w w' : World} {v : Int} (h : p = (Can.zero, v)) (hb : Below w.heap.size w w') : ParsePost p w (.returned (.tuple #[.agg #[.int .i64 0, .bool false, .slice none 0 0], .int .i64 v])) w' := by
  subst h
  exact ⟨none, 0, rfl, OB.none_ _ _, hb⟩
theorem parse_mk {p : Can.Fr × Int} {w w' : World} {i : Int} {r : Bool} {A : Option Addr} {c n : Nat} {l : List UInt8} (h : p = (⟨i, r, l⟩, 0)) (hn : l.length = n) (ho : OB w' w.heap.size A n c l) (hb : Below w.heap.size w w') :
    ParsePost p w (.returned (.tuple #[.agg #[.int .i64 i, .bool r, .slice A n c], .int .i64 0])) w' := by
  subst h hn
  exact ⟨A, c, rfl, ho, hb⟩
set_option maxRecDepth 100000 in
set_option maxHeartbeats 4000000 in
theorem Parse_any (s : List UInt8) (w : World) (hs : s.length ≤ 200000) : Calls Try.prog 12 #[.string (T s)] w (ParsePost (Can.parseS s) w) := by
  have C1 := Lib.hid (fun w => id_any s w (by omega))
  go_enter Try.func12, Try.ntmps12
  go_wp2_with fail
  refine (C1.out _).mono ?_
  rintro e w1 ⟨(⟨rfl, hok⟩ | ⟨⟨n, t, rfl⟩, hno⟩), b1⟩
  · have k1 := Blk.made b1
    have d1 := below_step (alloc_one _ _) b1 (Nat.le_refl _)
    obtain ⟨q0, q1, q2, q3⟩ := k1.three
    have hP := Can.parseS_ok hok
    have hv := Can.idv_lt s 3
    generalize Can.idv s 3 = v at *
    have htl : (s.drop 4).length ≤ 200000 := by rw [List.length_drop]; omega
    generalize s.drop 4 = t at *
    have HOK := Lib.hid hok; clear hok
    by_cases hr : t = [82]
    · rw [if_pos hr] at hP
      subst hr
      have HP := Lib.hid hP; clear hP
      have hq := T_toList [82]
      have C2 := Lib.hid (fun w => Check_any (v : Int) true (A := none) (n := 0) (c := 0) w (by omega))
      go_wp2_with fail
      refine (C2.out _).mono ?_
      rintro e w2 ⟨he, b2⟩
      have d2 := below_step (below_step d1 (alloc_one _ _) (Nat.le_refl _)) b2 (Nat.le_refl _)
      have kr := (k1.alloc (.cells #[.int .i64 v, .bool true, .slice none 0 0] 24)).later b2
      have kf := Blk.made b2
      obtain ⟨f0, f1, f2, f3⟩ := kf.three
      obtain ⟨p0, p1, p2, p3⟩ := kr.three
      clear q0 q1 q2 q3
      by_cases hz : Can.checkN (v : Int) true 0 = 0
      · rw [hz] at he
        subst he
        have HZ := Lib.hid hz; clear hz
        go_wp2_with fail
        obtain ⟨r0, r1, r2, r3⟩ := (kr.store3 (.int .i64 v) (.bool true) (.slice none 0 0)).three
        exact bodyPost_ret (v := .tuple #[.agg #[.int .i64 v, .bool true, (.slice none 0 0)], .int .i64 0]) (by simp [results, Try.results12, go_sem, r0, r1, r2]) rfl (parse_mk (by rw [HP.out]; unfold Can.chk; rw [if_pos (by exact HZ.out)]) rfl (OB.none_ _ _) (below_set3 d2 (Nat.le_refl _) _ _ _ _ _ _))
      · have hne : (Can.checkN (v : Int) true 0 != 0) = true := by simpa using hz
        have HZ := Lib.hid hz; clear hz
        have HC := Lib.hid (show Can.check ⟨v, true, []⟩ = Can.checkN (v : Int) true 0 from rfl)
        generalize Can.checkN (v : Int) true 0 = x at *
        subst he
        go_wp2_with fail
        obtain ⟨r0, r1, r2, r3⟩ := (kr.store3 (.int .i64 0) (.bool false) (.slice none 0 0)).three
        exact bodyPost_ret (v := .tuple #[.agg #[.int .i64 0, .bool false, .slice none 0 0], .int .i64 x]) (by simp [results, Try.results12, go_sem, r0, r1, r2]) rfl (parse_zero (by rw [HP.out]; unfold Can.chk; rw [HC.out, if_neg HZ.out]) (below_set3 d2 (Nat.le_refl _) _ _ _ _ _ _))
    · rw [if_neg hr] at hP
      have HP0 := Lib.hid hP; clear hP
      have hq1 := T_toList t
      have hq : (t == [82]) = false := by rw [beq_eq_false_iff_ne]; exact hr
      have C2 := Lib.hid (fun w => Unhex_T t w htl)
      go_wp2_with fail
      refine (C2.out _).mono ?_
      rintro e w2 ⟨A2, c2, he, h2, b2⟩
      have d2 := below_step (below_step d1 (alloc_one _ _) (Nat.le_refl _)) b2 (Nat.le_refl _)
      have kr := (k1.alloc (.cells #[.int .i64 v, .bool false, .slice none 0 0] 24)).later b2
      have kf := Blk.made b2
      obtain ⟨f0, f1, f2, f3⟩ := kf.three
      obtain ⟨p0, p1, p2, p3⟩ := kr.three
      clear q0 q1 q2 q3
      cases hx : Oct.pairs t with
      | none =>
        have e2 : Oct.unhexS t = ([], 4) := by rw [Oct.unhexS, hx]
        rw [e2] at he
        subst he
        have hP := HP0.out
        rw [hx] at hP
        have HP := Lib.hid hP; clear hP hx e2 h2 HP0
        go_wp2_with fail
        obtain ⟨r0, r1, r2, r3⟩ := (kr.store3 (.int .i64 0) (.bool false) (.slice none 0 0)).three
        exact bodyPost_ret (v := .tuple #[.agg #[.int .i64 0, .bool false, .slice none 0 0], .int .i64 4]) (by simp [results, Try.results12, go_sem, r0, r1, r2]) rfl (parse_zero (by rw [HP.out]) (below_set3 d2 (Nat.le_refl _) _ _ _ _ _ _))
      | some l =>
        have e2 : Oct.unhexS t = (l, 0) := by rw [Oct.unhexS, hx]
        rw [e2] at he h2
        subst he
        have hP := HP0.out
        rw [hx] at hP
        dsimp only at h2
        have HP := Lib.hid hP; clear hP hx e2 HP0
        have hln : l.length ≤ 9223372036854775807 := by have := h2.rb.lt; exact this
        have C3 := Lib.hid (fun w => Check_any (v : Int) false (A := A2) (n := l.length) (c := c2) w hln)
        go_wp2_with fail
        refine (C3.out _).mono ?_
        rintro e w3 ⟨he, b3⟩
        have g0 := (kf.set_ 2 (.slice A2 l.length c2)).later b3
        have gr := (kr.far (p := ⟨w1.heap.size, 2, none⟩) (by have := k1.lt; show w.heap.size ≠ w1.heap.size; omega) (.slice A2 l.length c2)).later b3
        obtain ⟨f0, f1, f2, f3⟩ := Blk.three g0
        obtain ⟨p0, p1, p2, p3⟩ := gr.three
        have o3 := (h2.far (g := w1.heap.size) (by simp) 2 (.slice A2 l.length c2)).below b3
        have o4 := (o3.far3 (g := w.heap.size) (by have := d1.size; simp; omega) 0 1 2 (.int .i64 v) (.bool false) (.slice A2 l.length c2)).more (base' := w.heap.size) (by have := d1.size; simp; omega)
        have d3 : Below w.heap.size w w3 := below_step (d2.setCell (p := ⟨w1.heap.size, 2, none⟩) d1.size _) b3 (Nat.le_refl _)
        clear h2 o3
        have HL := Lib.hid (show Can.check ⟨v, false, l⟩ = Can.checkN (v : Int) false l.length from rfl)
        by_cases hz : Can.checkN (v : Int) false l.length = 0
        · rw [hz] at he
          subst he
          have HZ := Lib.hid hz; clear hz
          go_wp2_with fail
          obtain ⟨r0, r1, r2, r3⟩ := (gr.store3 (.int .i64 v) (.bool false) (.slice A2 l.length c2)).three
          exact bodyPost_ret (v := .tuple #[.agg #[.int .i64 v, .bool false, .slice A2 l.length c2], .int .i64 0]) (by simp [results, Try.results12, go_sem, r0, r1, r2]) rfl (parse_mk (by rw [HP.out]; unfold Can.chk; rw [HL.out, if_pos HZ.out]) rfl o4 (below_set3 d3 (Nat.le_refl _) _ _ _ _ _ _))
        · have hne : (Can.checkN (v : Int) false l.length != 0) = true := by simpa using hz
          have HZ := Lib.hid hz; clear hz
          generalize Can.checkN (v : Int) false l.length = x at *
          subst he
          go_wp2_with fail
          obtain ⟨r0, r1, r2, r3⟩ := (gr.store3 (.int .i64 0) (.bool false) (.slice none 0 0)).three
          exact bodyPost_ret (v := .tuple #[.agg #[.int .i64 0, .bool false, .slice none 0 0], .int .i64 x]) (by simp [results, Try.results12, go_sem, r0, r1, r2]) rfl (parse_zero (by rw [HP.out]; unfold Can.chk; rw [HL.out, if_neg HZ.out]) (below_set3 d3 (Nat.le_refl _) _ _ _ _ _ _))
  · have k1 := Blk.made b1
    have d1 := below_step (alloc_one _ _) b1 (Nat.le_refl _)
    obtain ⟨q0, q1, q2, q3⟩ := k1.three
    have hP := Lib.hid (Can.parseS_bad hno)
    clear hno
    go_wp2_with fail
    obtain ⟨r0, r1, r2, r3⟩ := (k1.store3 (.int .i64 0) (.bool false) (.slice none 0 0)).three
    exact bodyPost_ret (v := .tuple #[.agg #[.int .i64 0, .bool false, .slice none 0 0], .int .i64 4]) (by simp [results, Try.results12, go_sem, r0, r1, r2]) rfl (parse_zero hP.out (below_set3 d1 (Nat.le_refl _) _ _ _ _ _ _))
set_option maxRecDepth 100000 in
set_option maxHeartbeats 4000000 in
theorem RParse_any (s : List UInt8) (w : World) (hs : s.length ≤ 199999) : Calls Try.prog 13 #[.string (T s)] w (ParsePost (Can.parseS s) w) := by
  have hts := T_size s
  by_cases hlen : s.length < 4
  · have hP := Lib.hid (Can.parseS_bad (s := s) fun h => by have := h.1; omega)
    have hb : decide ((s.length : Int) < 4) = true := by simp; omega
    go_enter Try.func13, Try.ntmps13
    go_wp2_with fail
    exact bodyPost_ret (v := .tuple #[.agg #[.int .i64 0, .bool false, .slice none 0 0], .int .i64 4]) (by simp [results, Try.results13, go_sem]) rfl (parse_zero (hP.out) (alloc_one _ _))
  have hb : decide ((s.length : Int) < 4) = false := by simp; omega
  have hat := fun w => run_T_at s .i64 3 3 rfl (by omega) w
  by_cases h35 : s.getD 3 0 = 35
  · rw [h35] at hat
    have hh := fun w => run_T_head s .i64 3 3 rfl (by omega) w
    have hl3 : (s.take 3).length = 3 := by rw [List.length_take]; omega
    have ha : ∀ w, (Op.stringOp .add ⟨#[48]⟩ (T (s.take 3))).run Try.prog w = .ok (.string (T (48 :: s.take 3))) w := fun w => run_T_add [48] (s.take 3) (by rw [hl3]; decide) w
    have C1 := Lib.hid (fun w => RUnhex_T (48 :: s.take 3) w (by rw [List.length_cons, hl3]; decide))
    have hrest := fun w => run_T_rest s .i64 4 4 rfl (by omega) w
    have k1 := Blk.new w 24 #[.int .i64 0, .bool false, .slice none 0 0]
    by_cases hok : ∀ j, j < 3 → Oct.nib (s.getD j 0) ≠ none
    · obtain ⟨x, y, hxy, hv⟩ := Can.pairs_id (by omega) hok
      have hP := Can.parseS_ok (s := s) ⟨by omega, h35, hok⟩
      have e2 : Oct.unhexS (48 :: s.take 3) = ([x, y], 0) := by rw [Oct.unhexS, hxy]
      have htl : (s.drop 4).length ≤ 200000 := by rw [List.length_drop]; omega
      generalize hge : Can.idv s 3 = v at *
      have hbx := byte_lt x
      have hby := byte_lt y
      have HV := Lib.hid hv; clear hv hge
      have HP0 := Lib.hid hP; clear hP hok hxy
      generalize s.drop 4 = t at *
      go_enter Try.func13, Try.ntmps13
      go_wp2_with fail
      refine (C1.out _).mono ?_
      rintro e w1 ⟨A1, c1, he, h1, b1⟩
      rw [e2] at he h1
      subst he
      dsimp only at h1
      clear e2
      have k2 := k1.later b1
      have d1 := below_step (alloc_one _ _) b1 (Nat.le_refl _)
      obtain ⟨g, rfl, hg1, hg2⟩ := h1.head (by simp)
      have m0 := cell_regrown (h1.cell (i := 0) (by simp))
      have m1 := cell_regrown (h1.cell (i := 1) (by simp))
      have hvv : 256 * (x.toNat : Int) + (y.toNat : Int) = (v : Int) := by have := HV.out; omega
      have HVV := Lib.hid hvv; clear hvv
      go_wp2_with fail
      refine region_later (by kernel_rfl) ?_
      refine phase_later (by kernel_rfl) 2 (below_drew _) [0, 5, 1, 6, 2, 7, 3, 8, 4, 9, 10] rfl (by kernel_rfl) ?_
      simp only [picks, nth]
      repeat (go_big_quiet_step (fail))
      refine wpQuiet_nil ?_
      refine phase_op 11 1 rfl (by kernel_rfl) (by decide) ?_
      simp only [nth]
      go_wp2_with fail
      refine behind_since (((below_drew w1).alloc (by simp) _)) ?_
      refine phase_op 12 0 rfl (by kernel_rfl) (by decide) ?_
      simp only [nth]
      go_wp2_with fail
      rw [HVV.out]
      refine behind_since ((alloc_one w1 _).drew) ?_
      refine phase_end (by kernel_rfl) ?_
      have kr := (k2.alloc (.cells #[.int .i64 v, .bool false, .slice none 0 0] 24)).drew
      have kf := (Blk.new w1 24 #[.int .i64 v, .bool false, .slice none 0 0]).drew
      have d2 := below_step d1 (alloc_one w1 (.cells #[.int .i64 v, .bool false, .slice none 0 0] 24)).drew (Nat.le_refl _)
      have hlt := k2.lt
      generalize hw2 : (w1.alloc (.cells #[.int .i64 v, .bool false, .slice none 0 0] 24)).drew = w2 at *
      have hz2 : w2.heap.size = w1.heap.size + 1 := by rw [← hw2]; simp
      have HW2 := Lib.hid hw2; clear hw2
      have HZ2 := Lib.hid hz2; clear hz2
      clear m0 m1 h1 b1
      obtain ⟨f0, f1, f2, f3⟩ := kf.three
      obtain ⟨p0, p1, p2, p3⟩ := kr.three
      by_cases hr : t = [82]
      · have hP := HP0.out
        rw [if_pos hr] at hP
        subst hr
        have HP := Lib.hid hP; clear hP HP0
        have hq := T_toList [82]
        have C2 := Lib.hid (fun w => RCheck_any (v : Int) true (A := none) (n := 0) (c := 0) w (by omega))
        go_wp2_with fail
        refine (C2.out _).mono ?_
        rintro e w3 ⟨he, b3⟩
        have g0 := (kf.set_ 1 (.bool true)).later b3
        have gr := (kr.far (p := ⟨w1.heap.size, 1, none⟩) (by show w.heap.size ≠ w1.heap.size; omega) (.bool true)).later b3
        have d3 : Below w.heap.size w w3 := below_step (d2.setCell (p := ⟨w1.heap.size, 1, none⟩) d1.size _) b3 (Nat.le_refl _)
        clear f0 f1 f2 f3 p0 p1 p2 p3
        obtain ⟨f0, f1, f2, f3⟩ := Blk.three g0
        obtain ⟨p0, p1, p2, p3⟩ := gr.three
        by_cases hz : Can.checkN (v : Int) true 0 = 0
        · rw [hz] at he
          subst he
          have HZ := Lib.hid hz; clear hz
          go_wp2_with fail
          obtain ⟨r0, r1, r2, r3⟩ := (gr.store3 (.int .i64 v) (.bool true) (.slice none 0 0)).three
          exact bodyPost_ret (v := .tuple #[.agg #[.int .i64 v, .bool true, .slice none 0 0], .int .i64 0]) (by simp [results, Try.results13, go_sem, r0, r1, r2]) rfl (parse_mk (by rw [HP.out]; unfold Can.chk; rw [if_pos (by exact HZ.out)]) rfl (OB.none_ _ _) (below_set3 d3 (Nat.le_refl _) _ _ _ _ _ _))
        · have hne : (Can.checkN (v : Int) true 0 != 0) = true := by simpa using hz
          have HZ := Lib.hid hz; clear hz
          have HC := Lib.hid (show Can.check ⟨v, true, []⟩ = Can.checkN (v : Int) true 0 from rfl)
          generalize Can.checkN (v : Int) true 0 = x at *
          subst he
          go_wp2_with fail
          obtain ⟨r0, r1, r2, r3⟩ := (gr.store3 (.int .i64 0) (.bool false) (.slice none 0 0)).three
          exact bodyPost_ret (v := .tuple #[.agg #[.int .i64 0, .bool false, .slice none 0 0], .int .i64 x]) (by simp [results, Try.results13, go_sem, r0, r1, r2]) rfl (parse_zero (by rw [HP.out]; unfold Can.chk; rw [HC.out, if_neg HZ.out]) (below_set3 d3 (Nat.le_refl _) _ _ _ _ _ _))
      · have hP := HP0.out
        rw [if_neg hr] at hP
        have HP1 := Lib.hid hP; clear hP HP0
        have hq1 := T_toList t
        have hq : (t == [82]) = false := by rw [beq_eq_false_iff_ne]; exact hr
        have C2 := Lib.hid (fun w => RUnhex_T t w htl)
        go_wp2_with fail
        refine (C2.out _).mono ?_
        rintro e w3 ⟨A3, c3, he, h3, b3⟩
        have d3 := below_step d2 b3 (Nat.le_refl _)
        have gr := kr.later b3
        have g0 := kf.later b3
        clear f0 f1 f2 f3 p0 p1 p2 p3
        obtain ⟨f0, f1, f2, f3⟩ := g0.three
        obtain ⟨p0, p1, p2, p3⟩ := gr.three
        cases hx : Oct.pairs t with
        | none =>
          have e2 : Oct.unhexS t = ([], 4) := by rw [Oct.unhexS, hx]
          rw [e2] at he
          subst he
          have hP := HP1.out
          rw [hx] at hP
          have HP := Lib.hid hP; clear hP hx e2 h3 HP1
          go_wp2_with fail
          obtain ⟨r0, r1, r2, r3⟩ := (gr.store3 (.int .i64 0) (.bool false) (.slice none 0 0)).three
          exact bodyPost_ret (v := .tuple #[.agg #[.int .i64 0, .bool false, .slice none 0 0], .int .i64 4]) (by simp [results, Try.results13, go_sem, r0, r1, r2]) rfl (parse_zero (by rw [HP.out]) (below_set3 d3 (Nat.le_refl _) _ _ _ _ _ _))
        | some l =>
          have e2 : Oct.unhexS t = (l, 0) := by rw [Oct.unhexS, hx]
          rw [e2] at he h3
          subst he
          have hP := HP1.out
          rw [hx] at hP
          dsimp only at h3
          have HP := Lib.hid hP; clear hP hx e2 HP1
          have hln : l.length ≤ 9223372036854775807 := by have := h3.rb.lt; exact this
          have C3 := Lib.hid (fun w => RCheck_any (v : Int) false (A := A3) (n := l.length) (c := c3) w hln)
          go_wp2_with fail
          refine (C3.out _).mono ?_
          rintro e w4 ⟨he, b4⟩
          have gr4 := (gr.far (p := ⟨w1.heap.size, 2, none⟩) (by show w.heap.size ≠ w1.heap.size; omega) (.slice A3 l.length c3)).later b4
          have g4 := (g0.set_ 2 (.slice A3 l.length c3)).later b4
          have o4 := ((h3.far (g := w1.heap.size) (by rw [HZ2.out]; omega) 2 (.slice A3 l.length c3)).below b4)
          have o5 := (o4.far3 (g := w.heap.size) (by rw [HZ2.out]; omega) 0 1 2 (.int .i64 v) (.bool false) (.slice A3 l.length c3)).more (base' := w.heap.size) (by rw [HZ2.out]; omega)
          have d4 : Below w.heap.size w w4 := below_step (d3.setCell (p := ⟨w1.heap.size, 2, none⟩) d1.size _) b4 (Nat.le_refl _)
          clear h3 o4 f0 f1 f2 f3 p0 p1 p2 p3
          obtain ⟨f0, f1, f2, f3⟩ := Blk.three g4
          obtain ⟨p0, p1, p2, p3⟩ := gr4.three
          have HL := Lib.hid (show Can.check ⟨v, false, l⟩ = Can.checkN (v : Int) false l.length from rfl)
          by_cases hz : Can.checkN (v : Int) false l.length = 0
          · rw [hz] at he
            subst he
            have HZ := Lib.hid hz; clear hz
            go_wp2_with fail
            obtain ⟨r0, r1, r2, r3⟩ := (gr4.store3 (.int .i64 v) (.bool false) (.slice A3 l.length c3)).three
            exact bodyPost_ret (v := .tuple #[.agg #[.int .i64 v, .bool false, .slice A3 l.length c3], .int .i64 0]) (by simp [results, Try.results13, go_sem, r0, r1, r2]) rfl (parse_mk (by rw [HP.out]; unfold Can.chk; rw [HL.out, if_pos HZ.out]) rfl o5 (below_set3 d4 (Nat.le_refl _) _ _ _ _ _ _))
          · have hne : (Can.checkN (v : Int) false l.length != 0) = true := by simpa using hz
            have HZ := Lib.hid hz; clear hz
            generalize Can.checkN (v : Int) false l.length = x at *
            subst he
            go_wp2_with fail
            obtain ⟨r0, r1, r2, r3⟩ := (gr4.store3 (.int .i64 0) (.bool false) (.slice none 0 0)).three
            exact bodyPost_ret (v := .tuple #[.agg #[.int .i64 0, .bool false, .slice none 0 0], .int .i64 x]) (by simp [results, Try.results13, go_sem, r0, r1, r2]) rfl (parse_zero (by rw [HP.out]; unfold Can.chk; rw [HL.out, if_neg HZ.out]) (below_set3 d4 (Nat.le_refl _) _ _ _ _ _ _))
    · have : ∃ j, j < 3 ∧ Oct.nib (s.getD j 0) = none := by
        apply Classical.byContradiction
        intro hc
        exact hok fun j hj e => hc ⟨j, hj, e⟩
      obtain ⟨j, hj, hn⟩ := this
      have e2 : Oct.unhexS (48 :: s.take 3) = ([], 4) := by rw [Oct.unhexS, Can.pairs_id_bad (by omega) hj hn]
      have hP := Lib.hid (Can.parseS_bad (s := s) fun h => h.2.2 j hj hn)
      clear hn hok
      go_enter Try.func13, Try.ntmps13
      go_wp2_with fail
      refine (C1.out _).mono ?_
      rintro e w1 ⟨A1, c1, he, h1, b1⟩
      rw [e2] at he
      subst he
      clear e2
      have k2 := k1.later b1
      have d1 := below_step (alloc_one _ _) b1 (Nat.le_refl _)
      obtain ⟨q0, q1, q2, q3⟩ := k2.three
      obtain ⟨r0, r1, r2, r3⟩ := (k2.store3 (.int .i64 0) (.bool false) (.slice none 0 0)).three
      go_wp2_with fail
      exact bodyPost_ret (v := .tuple #[.agg #[.int .i64 0, .bool false, .slice none 0 0], .int .i64 4]) (by simp [results, Try.results13, go_sem, r0, r1, r2]) rfl (parse_zero (hP.out) (below_set3 d1 (Nat.le_refl _) _ _ _ _ _ _))
  · have hP := Lib.hid (Can.parseS_bad (s := s) fun h => h35 h.2.1)
    have hq : (((s.getD 3 0).toNat : Int) != 35) = true := by
      rw [bne_iff_ne]
      intro h
      exact h35 (UInt8.toNat_inj.1 (by have : (35 : UInt8).toNat = 35 := rfl; omega))
    generalize s.getD 3 0 = x at *
    go_enter Try.func13, Try.ntmps13
    go_wp2_with fail
    exact bodyPost_ret (v := .tuple #[.agg #[.int .i64 0, .bool false, .slice none 0 0], .int .i64 4]) (by simp [results, Try.results13, go_sem]) rfl (parse_zero (hP.out) (alloc_one _ _))
end Go.Proofs.Ythfhhkjnmpiieaa
