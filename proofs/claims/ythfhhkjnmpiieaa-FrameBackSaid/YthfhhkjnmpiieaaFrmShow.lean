/-
  Walks: frame.Show, and the reference's.
  Conditions: none.
-/
import Derived.Test.YthfhhkjnmpiieaaFrm
import Derived.Test.YthfhhkjnmpiieaaBlk
import Derived.Test.YthfhhkjnmpiieaaOctHexU
namespace Go.Proofs.Ythfhhkjnmpiieaa
set_option linter.unusedVariables false
set_option linter.unusedSimpArgs false
open Go.RowKit
theorem Hex_T {A : Option Addr} {n c B : Nat} {l : List UInt8} (w : World) (hb : RB w B A n c l) (hn : n ≤ 100000) (hB : B ≤ w.heap.size) :
    Calls Try.prog 27 #[.slice A n c] w fun e w' => e = .returned (.string (T (Oct.hexS l))) ∧ Below w.heap.size w w' := Hex_any w hb hn hB
theorem RHex_T {A : Option Addr} {n c B : Nat} {l : List UInt8} (w : World) (hb : RB w B A n c l) (hn : n ≤ 100000) :
    Calls Try.prog 28 #[.slice A n c] w fun e w' => e = .returned (.string (T (Oct.hexS l))) ∧ Below w.heap.size w w' := RHex_any w hb hn
theorem Unhex_T (s : List UInt8) (w : World) (hn : s.length ≤ 200000) :
    Calls Try.prog 30 #[.string (T s)] w fun e w' => ∃ A1 c1, e = .returned (.tuple #[.slice A1 (Oct.unhexS s).1.length c1, .int .i64 (Oct.unhexS s).2]) ∧ OB w' w.heap.size A1 (Oct.unhexS s).1.length c1 (Oct.unhexS s).1 ∧ Below w.heap.size w w' := Unhex_any s w hn
theorem RUnhex_T (s : List UInt8) (w : World) (hn : s.length ≤ 200000) :
    Calls Try.prog 31 #[.string (T s)] w fun e w' => ∃ A1 c1, e = .returned (.tuple #[.slice A1 (Oct.unhexS s).1.length c1, .int .i64 (Oct.unhexS s).2]) ∧ OB w' w.heap.size A1 (Oct.unhexS s).1.length c1 (Oct.unhexS s).1 ∧ Below w.heap.size w w' := RUnhex_any s w hn
/-- The first digit of two bytes is cut off. -/
theorem id_text (k : Nat) (hk : k ≤ 2047) : (Oct.hexS [UInt8.ofNat (k / 256), UInt8.ofNat (k % 256)]).drop 1 = Can.idS (k : Int) := by
  have e1 : (UInt8.ofNat (k / 256)).toNat = k / 256 := by rw [UInt8.toNat_ofNat']; omega
  have e2 : (UInt8.ofNat (k % 256)).toNat = k % 256 := by rw [UInt8.toNat_ofNat']; omega
  have e3 : ((k : Int) / 256).toNat = k / 256 := by omega
  have e4 : ((k : Int) % 256).toNat = k % 256 := by omega
  unfold Can.idS
  rw [e3, e4]
  simp only [Oct.hexS, List.flatMap_cons, List.flatMap_nil, e1, e2]
  rfl
theorem idS_length (i : Int) : (Can.idS i).length = 3 := rfl
theorem showS_bad {f : Can.Fr} (h : Can.check f ≠ 0) : Can.showS f = ([], Can.check f) := by unfold Can.showS; rw [if_neg h]
theorem showS_rem {i : Int} {l : List UInt8} (h : Can.checkN i true l.length = 0) : Can.showS ⟨i, true, l⟩ = (Can.idS i ++ [35] ++ [82], 0) := by unfold Can.showS Can.check; rw [if_pos h, if_pos rfl]
theorem showS_data {i : Int} {l : List UInt8} (h : Can.checkN i false l.length = 0) : Can.showS ⟨i, false, l⟩ = (Can.idS i ++ [35] ++ Oct.hexS l, 0) := by unfold Can.showS Can.check; rw [if_pos h, if_neg Bool.false_ne_true]
theorem two_bytes (w : World) {a b : Int} {x y : UInt8} (ha : a = (x.toNat : Int)) (hb : b = (y.toNat : Int)) :
    RB (w.alloc (.cells #[.int .u8 a, .int .u8 b] 5)) (w.heap.size + 1) (some ⟨w.heap.size, 0, none⟩) 2 2 [x, y] := by
  subst ha hb
  exact RB.lit w [.int .u8 x.toNat, .int .u8 y.toNat] [x, y] rfl rfl (by omega)
set_option maxRecDepth 100000 in
set_option maxHeartbeats 2000000 in
theorem Show_any (i : Int) (r : Bool) {A : Option Addr} {n c B : Nat} {l : List UInt8} (w : World) (h : RB w B A n c l) (hB : B ≤ w.heap.size) :
    Calls Try.prog 10 #[.agg #[.int .i64 i, .bool r, .slice A n c]] w fun e w' => e = .returned (.tuple #[.string (T (Can.showS ⟨i, r, l⟩).1), .int .i64 (Can.showS ⟨i, r, l⟩).2]) ∧ Below w.heap.size w w' := by
  have C1 := Lib.hid (fun w => Check_any i r (A := A) (n := n) (c := c) w h.lt)
  have hl := h.len
  by_cases hz : Can.checkN i r n = 0
  · obtain ⟨g1, g2, g3, g4⟩ := Can.checkN_lt hz
    have E : Can.checkN i r l.length = 0 := by rw [hl]; exact hz
    obtain ⟨k, rfl⟩ := Int.eq_ofNat_of_zero_le g1
    have hb1 : (k : Int) / 256 = ((UInt8.ofNat (k / 256)).toNat : Int) := by rw [UInt8.toNat_ofNat']; omega
    have hb2 : IntKind.u8.wrap (k : Int) = ((UInt8.ofNat (k % 256)).toNat : Int) := by rw [IntKind.wrap_u8, UInt8.toNat_ofNat']; omega
    have hid := id_text k (by omega)
    have hlen : (Oct.hexS [UInt8.ofNat (k / 256), UInt8.ofNat (k % 256)]).length = 4 := by rw [Oct.hexS_length]; rfl
    have hex : ∀ w, _ := fun w => run_T_rest (Oct.hexS [UInt8.ofNat (k / 256), UInt8.ofNat (k % 256)]) .i64 1 1 rfl (by omega) w
    rw [hid] at hex
    generalize hx1 : UInt8.ofNat (k / 256) = x1 at *
    generalize hx2 : UInt8.ofNat (k % 256) = x2 at *
    generalize hs : Oct.hexS [x1, x2] = s at *
    have ha1 : ∀ w, (Op.stringOp .add (T (Can.idS k)) ⟨#[35]⟩).run Try.prog w = .ok (.string (T (Can.idS k ++ [35]))) w := fun w => run_T_add (Can.idS k) [35] (by rw [idS_length]; decide) w
    have HB1 := Lib.hid hb1; have HS := Lib.hid hs; have HX := Lib.hid hex
    clear hb1 hs hid hlen hx1 hx2 g4 hex
    cases r
    · have hd := Oct.hexS_length l
      have ha2 : ∀ w, (Op.stringOp .add (T (Can.idS k ++ [35])) (T (Oct.hexS l))).run Try.prog w = .ok (.string (T (Can.idS k ++ [35] ++ Oct.hexS l))) w := fun w => run_T_add _ _ (by rw [hd, List.length_append, idS_length]; simp; omega) w
      have E2 := Lib.hid (showS_data E)
      clear hd
      go_enter Try.func10, Try.ntmps10
      go_wp2_with fail
      refine (C1.out _).mono ?_
      rintro e w1 ⟨he, b1⟩
      rw [hz] at he
      subst he
      have k1 := Blk.made b1
      obtain ⟨q0, q1, q2, q3⟩ := k1.three
      have d1 := below_step (alloc_one _ _) b1 (Nat.le_refl _)
      go_wp2_with fail
      refine (Hex_T _ (two_bytes w1 HB1.out rfl) (by omega) (by simp)).mono ?_
      rintro e w2 ⟨he, b2⟩
      rw [HS.out] at he
      subst he
      have k2 := (k1.alloc (.cells #[.int .u8 ((k : Int) / 256), .int .u8 ↑x2.toNat] 5)).later b2
      have d2 := below_step (below_step d1 (alloc_one _ (.cells #[.int .u8 ((k : Int) / 256), .int .u8 ↑x2.toNat] 5)) (Nat.le_refl _)) b2 (Nat.le_refl _)
      obtain ⟨p0, p1, p2, p3⟩ := k2.three
      have p2g := cell_regrown p2
      clear q0 q1 q2 q3
      have hex := HX.out
      have hr := h.below (d2.mono hB)
      go_wp2_with fail
      refine region_later (by kernel_rfl) ?_
      refine phase_later (by kernel_rfl) 4 (below_drew _) [0, 3, 1, 4, 2] rfl (by kernel_rfl) ?_
      simp only [picks, nth]
      repeat (go_big_quiet_step (fail))
      refine wpQuiet_nil ?_
      refine phase_op 5 3 rfl (by kernel_rfl) (by decide) ?_
      simp only [nth]
      go_wp2_with fail
      refine (Hex_T _ hr.drew (by omega) (Nat.le_trans hB d2.size)).mono ?_
      rintro e w3 ⟨rfl, b3⟩
      have d3 := below_step (below_drew w2) b3 (Nat.le_refl _)
      go_wp2_with fail
      refine behind_later d3 ?_
      refine phase_later (by kernel_rfl) 0 (Below.refl _ _) [6, 7, 8] rfl (by kernel_rfl) ?_
      simp only [picks, nth]
      repeat (go_big_quiet_step (fail))
      refine wpQuiet_nil ?_
      refine phase_end (by kernel_rfl) ?_
      go_wp2_with fail
      go_ret2
      exact ⟨by rw [E2.out]; rfl, below_step d2 d3 (Nat.le_refl _)⟩
    · have ha2 : ∀ w, (Op.stringOp .add (T (Can.idS k ++ [35])) ⟨#[82]⟩).run Try.prog w = .ok (.string (T (Can.idS k ++ [35] ++ [82]))) w := fun w => run_T_add _ [82] (by rw [List.length_append, idS_length]; decide) w
      have E2 := Lib.hid (showS_rem E)
      go_enter Try.func10, Try.ntmps10
      go_wp2_with fail
      refine (C1.out _).mono ?_
      rintro e w1 ⟨he, b1⟩
      rw [hz] at he
      subst he
      have k1 := Blk.made b1
      obtain ⟨q0, q1, q2, q3⟩ := k1.three
      have d1 := below_step (alloc_one _ _) b1 (Nat.le_refl _)
      go_wp2_with fail
      refine (Hex_T _ (two_bytes w1 HB1.out rfl) (by omega) (by simp)).mono ?_
      rintro e w2 ⟨he, b2⟩
      rw [HS.out] at he
      subst he
      have k2 := (k1.alloc (.cells #[.int .u8 ((k : Int) / 256), .int .u8 ↑x2.toNat] 5)).later b2
      have d2 := below_step (below_step d1 (alloc_one _ (.cells #[.int .u8 ((k : Int) / 256), .int .u8 ↑x2.toNat] 5)) (Nat.le_refl _)) b2 (Nat.le_refl _)
      obtain ⟨p0, p1, p2, p3⟩ := k2.three
      have p2g := cell_regrown p2
      clear q0 q1 q2 q3
      have hex := HX.out
      go_wp2_with fail
      go_ret2
      exact ⟨by rw [E2.out]; rfl, d2⟩
  · have E2 := Lib.hid (showS_bad (f := ⟨i, r, l⟩) (by unfold Can.check; rw [hl]; exact hz))
    have hne : (Can.checkN i r n != 0) = true := by simpa using hz
    have E3 : Can.check ⟨i, r, l⟩ = Can.checkN i r n := by unfold Can.check; rw [hl]
    have E3 := Lib.hid E3
    generalize Can.checkN i r n = v at *
    go_enter Try.func10, Try.ntmps10
    go_wp2_with fail
    refine (C1.out _).mono ?_
    rintro e w1 ⟨rfl, b1⟩
    have d1 := below_step (alloc_one _ _) b1 (Nat.le_refl _)
    go_wp2_with fail
    go_ret2
    exact ⟨by rw [E2.out, E3.out]; rfl, d1⟩
set_option maxRecDepth 100000 in
set_option maxHeartbeats 2000000 in
theorem RShow_any (i : Int) (r : Bool) {A : Option Addr} {n c B : Nat} {l : List UInt8} (w : World) (h : RB w B A n c l) (hB : B ≤ w.heap.size) :
    Calls Try.prog 11 #[.agg #[.int .i64 i, .bool r, .slice A n c]] w fun e w' => e = .returned (.tuple #[.string (T (Can.showS ⟨i, r, l⟩).1), .int .i64 (Can.showS ⟨i, r, l⟩).2]) ∧ Below w.heap.size w w' := by
  have C1 := Lib.hid (fun w => RCheck_any i r (A := A) (n := n) (c := c) w h.lt)
  have hl := h.len
  by_cases hz : Can.checkN i r n = 0
  · obtain ⟨g1, g2, g3, g4⟩ := Can.checkN_lt hz
    have E : Can.checkN i r l.length = 0 := by rw [hl]; exact hz
    obtain ⟨k, rfl⟩ := Int.eq_ofNat_of_zero_le g1
    have hb1 : (k : Int) / 256 = ((UInt8.ofNat (k / 256)).toNat : Int) := by rw [UInt8.toNat_ofNat']; omega
    have hb2 : (k : Int) % 256 = ((UInt8.ofNat (k % 256)).toNat : Int) := by rw [UInt8.toNat_ofNat']; omega
    have hid := id_text k (by omega)
    have hlen : (Oct.hexS [UInt8.ofNat (k / 256), UInt8.ofNat (k % 256)]).length = 4 := by rw [Oct.hexS_length]; rfl
    have hex : ∀ w, _ := fun w => run_T_rest (Oct.hexS [UInt8.ofNat (k / 256), UInt8.ofNat (k % 256)]) .i64 1 1 rfl (by omega) w
    rw [hid] at hex
    generalize hx1 : UInt8.ofNat (k / 256) = x1 at *
    generalize hx2 : UInt8.ofNat (k % 256) = x2 at *
    generalize hs : Oct.hexS [x1, x2] = s at *
    have ha1 : ∀ w, (Op.stringOp .add (T (Can.idS k)) ⟨#[35]⟩).run Try.prog w = .ok (.string (T (Can.idS k ++ [35]))) w := fun w => run_T_add (Can.idS k) [35] (by rw [idS_length]; decide) w
    have HB1 := Lib.hid hb1; have HB2 := Lib.hid hb2; clear hb2; have HS := Lib.hid hs; have HX := Lib.hid hex
    clear hb1 hs hid hlen hx1 hx2 g4 hex
    cases r
    · have hd := Oct.hexS_length l
      have ha2 : ∀ w, (Op.stringOp .add (T (Can.idS k ++ [35])) (T (Oct.hexS l))).run Try.prog w = .ok (.string (T (Can.idS k ++ [35] ++ Oct.hexS l))) w := fun w => run_T_add _ _ (by rw [hd, List.length_append, idS_length]; simp; omega) w
      have E2 := Lib.hid (showS_data E)
      clear hd
      go_enter Try.func11, Try.ntmps11
      go_wp2_with fail
      refine (C1.out _).mono ?_
      rintro e w1 ⟨he, b1⟩
      rw [hz] at he
      subst he
      have k1 := Blk.made b1
      obtain ⟨q0, q1, q2, q3⟩ := k1.three
      have d1 := below_step (alloc_one _ _) b1 (Nat.le_refl _)
      go_wp2_with fail
      refine (RHex_T _ (two_bytes w1 HB1.out HB2.out) (by omega)).mono ?_
      rintro e w2 ⟨he, b2⟩
      rw [HS.out] at he
      subst he
      have k2 := (k1.alloc (.cells #[.int .u8 ((k : Int) / 256), .int .u8 ((k : Int) % 256)] 5)).later b2
      have d2 := below_step (below_step d1 (alloc_one _ (.cells #[.int .u8 ((k : Int) / 256), .int .u8 ((k : Int) % 256)] 5)) (Nat.le_refl _)) b2 (Nat.le_refl _)
      obtain ⟨p0, p1, p2, p3⟩ := k2.three
      have p2g := cell_regrown p2
      clear q0 q1 q2 q3
      have hex := HX.out
      have hr := h.below (d2.mono hB)
      go_wp2_with fail
      refine (RHex_T _ hr (by omega)).mono ?_
      rintro e w3 ⟨rfl, d3⟩
      go_wp2_with fail
      go_ret2
      exact ⟨by rw [E2.out]; rfl, below_step d2 d3 (Nat.le_refl _)⟩
    · have ha2 : ∀ w, (Op.stringOp .add (T (Can.idS k ++ [35])) ⟨#[82]⟩).run Try.prog w = .ok (.string (T (Can.idS k ++ [35] ++ [82]))) w := fun w => run_T_add _ [82] (by rw [List.length_append, idS_length]; decide) w
      have E2 := Lib.hid (showS_rem E)
      go_enter Try.func11, Try.ntmps11
      go_wp2_with fail
      refine (C1.out _).mono ?_
      rintro e w1 ⟨he, b1⟩
      rw [hz] at he
      subst he
      have k1 := Blk.made b1
      obtain ⟨q0, q1, q2, q3⟩ := k1.three
      have d1 := below_step (alloc_one _ _) b1 (Nat.le_refl _)
      go_wp2_with fail
      refine (RHex_T _ (two_bytes w1 HB1.out HB2.out) (by omega)).mono ?_
      rintro e w2 ⟨he, b2⟩
      rw [HS.out] at he
      subst he
      have k2 := (k1.alloc (.cells #[.int .u8 ((k : Int) / 256), .int .u8 ((k : Int) % 256)] 5)).later b2
      have d2 := below_step (below_step d1 (alloc_one _ (.cells #[.int .u8 ((k : Int) / 256), .int .u8 ((k : Int) % 256)] 5)) (Nat.le_refl _)) b2 (Nat.le_refl _)
      obtain ⟨p0, p1, p2, p3⟩ := k2.three
      have p2g := cell_regrown p2
      clear q0 q1 q2 q3
      have hex := HX.out
      go_wp2_with fail
      go_ret2
      exact ⟨by rw [E2.out]; rfl, d2⟩
  · have E2 := Lib.hid (showS_bad (f := ⟨i, r, l⟩) (by unfold Can.check; rw [hl]; exact hz))
    have hne : (Can.checkN i r n != 0) = true := by simpa using hz
    have E3 : Can.check ⟨i, r, l⟩ = Can.checkN i r n := by unfold Can.check; rw [hl]
    have E3 := Lib.hid E3
    generalize Can.checkN i r n = v at *
    go_enter Try.func11, Try.ntmps11
    go_wp2_with fail
    refine (C1.out _).mono ?_
    rintro e w1 ⟨rfl, b1⟩
    have d1 := below_step (alloc_one _ _) b1 (Nat.le_refl _)
    go_wp2_with fail
    go_ret2
    exact ⟨by rw [E2.out, E3.out]; rfl, d1⟩
end Go.Proofs.Ythfhhkjnmpiieaa
