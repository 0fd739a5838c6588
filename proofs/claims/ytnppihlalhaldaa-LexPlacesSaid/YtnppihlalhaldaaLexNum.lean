/-
  Walk: number of package lex.
  Conditions: none.
-/
import Derived.Test.YtnppihlalhaldaaLexTok
import Derived.Test.YtnppihlalhaldaaTypEnc
namespace Go.Proofs.Ytnppihlalhaldaa
set_option linter.unusedVariables false
set_option linter.unusedSimpArgs false
open Go.RowKit
theorem par21 (s : List UInt8) : ((Ty.parN s).2 ≠ 0 ∧ Ty.parseS 21 s = ([], (Ty.parN s).2)) ∨ ((Ty.parN s).2 = 0 ∧ ∃ b, Ty.parseS 21 s = (b, 0) ∧ Ty.decS 21 b = ((Ty.parN s).1, 0) ∧ b.length = 8) := by
  have hv := parse_val 21 s
  rw [if_neg (by decide), if_pos (by decide)] at hv
  by_cases h : (Ty.parN s).2 = 0
  · rw [if_neg (by rw [h]; decide)] at hv
    have hr := (par_range2 s).1
    have hl : Ty.limS 21 = (-9223372036854775808, 9223372036854775807, true) := by decide
    have he := enc_ok (t := 21) (n := (Ty.parN s).1) (by rw [hl]) (by rw [hl]; dsimp only; omega)
    obtain ⟨d1, d2, _⟩ := dec_enc he
    exact .inr ⟨h, _, hv.trans he, d1, d2⟩
  · rw [if_pos h] at hv
    exact .inl ⟨h, hv⟩
theorem take_tw (p : UInt8 → Bool) (l : List UInt8) : l.take (l.takeWhile p).length = l.takeWhile p := List.prefix_iff_eq_take.1 (List.takeWhile_prefix p) |>.symm
def numV (txt : List UInt8) : Value := tkV 2 txt (if (Ty.parN txt).2 = 0 then (Ty.parN txt).1 else 0) 0
theorem num_ok {txt : List UInt8} (h : (Ty.parN txt).2 = 0) : numV txt = tkV 2 txt (Ty.parN txt).1 0 ∧ decide ((Ty.parN txt).2 = 0) = true := by unfold numV; rw [if_pos h]; exact ⟨rfl, decide_eq_true h⟩
theorem num_bad {txt : List UInt8} (h : (Ty.parN txt).2 ≠ 0) : numV txt = tkV 2 txt 0 0 ∧ decide ((Ty.parN txt).2 = 0) = false := by unfold numV; rw [if_neg h]; exact ⟨rfl, decide_eq_false h⟩
set_option maxRecDepth 100000 in
set_option maxHeartbeats 4000000 in
theorem lex_number (c : UInt8) (r : List UInt8) (w : World) (hd : Lx.tokD c r = true) (hs : (c :: r).length ≤ 10000) :
    Calls Try.prog 28 #[.string (T (c :: r))] w (FPost (numV (c :: r.takeWhile Ty.isD)) (decide ((Ty.parN (c :: r.takeWhile Ty.isD)).2 = 0)) w) := by
  have hT := T_size (c :: r)
  have hat := fun w => run_T_at (c :: r) .i64 0 0 rfl (by simp) w
  rw [show (c :: r).getD 0 0 = c from rfl] at hat
  have htl := tw_len Ty.isD r
  have htk : (c :: r).take (1 + (r.takeWhile Ty.isD).length) = c :: r.takeWhile Ty.isD := by
    rw [Nat.add_comm, List.take_succ_cons, take_tw]
  simp only [List.length_cons] at hs hT
  by_cases hc : c = 45
  · subst hc
    have hrest := fun w => run_T_rest (45 :: r) .i64 1 1 rfl (by simp) w
    rw [show List.drop 1 (45 :: r) = r from rfl] at hrest
    have H1 := head_digit r
    have hcut := fun w => run_T_head (45 :: r) .i64 (1 + ((r.takeWhile Ty.isD).length : Int)) (1 + (r.takeWhile Ty.isD).length) (by omega) (by simp only [List.length_cons]; omega) w
    rw [htk] at hcut
    have hT2 := T_size (r.takeWhile Ty.isD)
    generalize r.takeWhile Ty.isD = d at *
    have P := fun w => Parse_anyT 21 (45 :: d) w (by simp only [List.length_cons]; omega)
    clear htk hd
    have H2 := Lib.hid (fun w => H1 w (by first | omega | (simp only [List.length_cons]; omega)))
    clear H1
    generalize htx : (45 :: d : List UInt8) = txt at *
    generalize (45 :: r : List UInt8) = s at *
    clear htx
    rcases par21 txt with ⟨h1, h2⟩ | ⟨h1, b, h2, h3, h4⟩
    · rw [h2] at P
      have HV := Lib.hid (num_bad h1)
      have hx : ((Ty.parN txt).2 != 0) = true := by simpa using h1
      replace P := Lib.hid P
      clear h1 h2
      generalize (Ty.parN txt).2 = pe at *
      go_enter Try.func28, Try.ntmps28
      go_wp2_with fail
      refine (H2.out _).mono ?_
      rintro e w1 ⟨rfl, b1⟩
      have K2 := Blk.made b1
      have d1 := below_step (alloc_one _ _) b1 (Nat.le_refl _)
      go_wp2_with fail
      refine (P.out _).mono ?_
      rintro e w2 ⟨A2, c2, rfl, o2, b2⟩
      clear o2
      have K5 := Blk.made b2
      have F5 := K5.four
      have d2 := below_step (d1.alloc d1.size (.cells #[.int .i64 2, .string (T txt), .int .i64 0, .int .i64 0] 29)) b2 (Nat.le_refl _)
      replace K2 := (K2.alloc (.cells #[.int .i64 2, .string (T txt), .int .i64 0, .int .i64 0] 29)).later b2
      have F2 := K2.four
      go_wp2_with fail
      obtain ⟨⟨r0, r1, r2, r3⟩, _⟩ := (K2.store4 (.int .i64 2) (.string (T txt)) (.int .i64 0) (.int .i64 0)).four
      exact bodyPost_ret (v := .tuple #[tkV 2 txt 0 0, .bool false]) (by simp [results, Try.results28, go_sem, r0, r1, r2, r3, tkV]) rfl ⟨by rw [HV.out.1, HV.out.2], below_set4 d2 (Nat.le_refl _) _ _ _ _ _ _ _ _⟩
    · rw [h2] at P
      have HV := Lib.hid (num_ok h1)
      have D := fun (A : Option Addr) (c B : Nat) (w1 : World) (h : RB w1 B A 8 c b) (hB : B ≤ w1.heap.size) => Decode_any 21 w1 h hB
      rw [h3] at D
      replace P := Lib.hid P; replace D := Lib.hid D
      clear h1 h2 h3
      generalize (Ty.parN txt).1 = pv at *
      go_enter Try.func28, Try.ntmps28
      go_wp2_with fail
      refine (H2.out _).mono ?_
      rintro e w1 ⟨rfl, b1⟩
      have K2 := Blk.made b1
      have d1 := below_step (alloc_one _ _) b1 (Nat.le_refl _)
      go_wp2_with fail
      refine (P.out _).mono ?_
      rintro e w2 ⟨A2, c2, rfl, o2, b2⟩
      dsimp only at o2
      rw [h4] at o2
      have D2 := Lib.hid (D.out _ _ _ w2 o2.rb (Nat.le_refl _))
      clear o2
      have K5 := Blk.made b2
      have d2 := below_step (d1.alloc d1.size (.cells #[.int .i64 2, .string (T txt), .int .i64 0, .int .i64 0] 29)) b2 (Nat.le_refl _)
      replace K2 := (K2.alloc (.cells #[.int .i64 2, .string (T txt), .int .i64 0, .int .i64 0] 29)).later b2
      have HL := Lib.hid h4; clear h4
      have hbl : (b.length : Int) = 8 := by rw [HL.out]; rfl
      go_wp2_with fail
      rw [HL.out]
      refine (D2.out).mono ?_
      rintro e w3 ⟨rfl, b3⟩
      replace K5 := K5.later b3
      replace K2 := K2.later b3
      have F5 := K5.four
      have F5' := (K5.set_ 2 (.int .i64 pv)).four
      have hne : w.heap.size ≠ w1.heap.size := by have := b1.size; simp at this; omega
      have K2' := K2.far (p := ⟨w1.heap.size, 2, none⟩) hne (.int .i64 pv)
      have F2 := K2'.four
      have d3 := below_step d2 b3 (Nat.le_refl _)
      have d4 := d3.setCell (p := ⟨w1.heap.size, 2, none⟩) d1.size (.int .i64 pv)
      go_wp2_with fail
      obtain ⟨⟨r0, r1, r2, r3⟩, _⟩ := (K2'.store4 (.int .i64 2) (.string (T txt)) (.int .i64 pv) (.int .i64 0)).four
      exact bodyPost_ret (v := .tuple #[tkV 2 txt pv 0, .bool true]) (by simp [results, Try.results28, go_sem, r0, r1, r2, r3, tkV]) rfl ⟨by rw [HV.out.1, HV.out.2], below_set4 d4 (Nat.le_refl _) _ _ _ _ _ _ _ _⟩
  · have hdc : Ty.isD c = true := by
      unfold Lx.tokD at hd
      have : (c == 45) = false := by rw [beq_eq_false_iff_ne]; exact hc
      rw [this] at hd
      simpa using hd
    have hc1 := byte_ne (k := 45) hc rfl
    have hrest := fun w => run_T_rest (c :: r) .i64 0 0 rfl (by simp) w
    rw [show List.drop 0 (c :: r) = c :: r from rfl] at hrest
    have H1 := head_digit (c :: r)
    rw [List.takeWhile_cons, if_pos hdc] at H1
    have hcut := fun w => run_T_head (c :: r) .i64 (((r.takeWhile Ty.isD).length : Int) + 1) (1 + (r.takeWhile Ty.isD).length) (by omega) (by simp only [List.length_cons]; omega) w
    rw [htk] at hcut
    have hT2 := T_size (c :: r.takeWhile Ty.isD)
    simp only [List.length_cons] at hT2
    generalize r.takeWhile Ty.isD = d at *
    have P := fun w => Parse_anyT 21 (c :: d) w (by simp only [List.length_cons]; omega)
    clear hc hdc
    clear htk hd
    have H2 := Lib.hid (fun w => H1 w (by first | omega | (simp only [List.length_cons]; omega)))
    clear H1
    generalize htx : (c :: d : List UInt8) = txt at *
    generalize (c :: r : List UInt8) = s at *
    clear htx
    rcases par21 txt with ⟨h1, h2⟩ | ⟨h1, b, h2, h3, h4⟩
    · rw [h2] at P
      have HV := Lib.hid (num_bad h1)
      have hx : ((Ty.parN txt).2 != 0) = true := by simpa using h1
      replace P := Lib.hid P
      clear h1 h2
      generalize (Ty.parN txt).2 = pe at *
      go_enter Try.func28, Try.ntmps28
      go_wp2_with fail
      refine (H2.out _).mono ?_
      rintro e w1 ⟨rfl, b1⟩
      have K2 := Blk.made b1
      have d1 := below_step (alloc_one _ _) b1 (Nat.le_refl _)
      go_wp2_with fail
      refine (P.out _).mono ?_
      rintro e w2 ⟨A2, c2, rfl, o2, b2⟩
      clear o2
      have K5 := Blk.made b2
      have F5 := K5.four
      have d2 := below_step (d1.alloc d1.size (.cells #[.int .i64 2, .string (T txt), .int .i64 0, .int .i64 0] 29)) b2 (Nat.le_refl _)
      replace K2 := (K2.alloc (.cells #[.int .i64 2, .string (T txt), .int .i64 0, .int .i64 0] 29)).later b2
      have F2 := K2.four
      go_wp2_with fail
      obtain ⟨⟨r0, r1, r2, r3⟩, _⟩ := (K2.store4 (.int .i64 2) (.string (T txt)) (.int .i64 0) (.int .i64 0)).four
      exact bodyPost_ret (v := .tuple #[tkV 2 txt 0 0, .bool false]) (by simp [results, Try.results28, go_sem, r0, r1, r2, r3, tkV]) rfl ⟨by rw [HV.out.1, HV.out.2], below_set4 d2 (Nat.le_refl _) _ _ _ _ _ _ _ _⟩
    · rw [h2] at P
      have HV := Lib.hid (num_ok h1)
      have D := fun (A : Option Addr) (c B : Nat) (w1 : World) (h : RB w1 B A 8 c b) (hB : B ≤ w1.heap.size) => Decode_any 21 w1 h hB
      rw [h3] at D
      replace P := Lib.hid P; replace D := Lib.hid D
      clear h1 h2 h3
      generalize (Ty.parN txt).1 = pv at *
      go_enter Try.func28, Try.ntmps28
      go_wp2_with fail
      refine (H2.out _).mono ?_
      rintro e w1 ⟨rfl, b1⟩
      have K2 := Blk.made b1
      have d1 := below_step (alloc_one _ _) b1 (Nat.le_refl _)
      go_wp2_with fail
      refine (P.out _).mono ?_
      rintro e w2 ⟨A2, c2, rfl, o2, b2⟩
      dsimp only at o2
      rw [h4] at o2
      have D2 := Lib.hid (D.out _ _ _ w2 o2.rb (Nat.le_refl _))
      clear o2
      have K5 := Blk.made b2
      have d2 := below_step (d1.alloc d1.size (.cells #[.int .i64 2, .string (T txt), .int .i64 0, .int .i64 0] 29)) b2 (Nat.le_refl _)
      replace K2 := (K2.alloc (.cells #[.int .i64 2, .string (T txt), .int .i64 0, .int .i64 0] 29)).later b2
      have HL := Lib.hid h4; clear h4
      have hbl : (b.length : Int) = 8 := by rw [HL.out]; rfl
      go_wp2_with fail
      rw [HL.out]
      refine (D2.out).mono ?_
      rintro e w3 ⟨rfl, b3⟩
      replace K5 := K5.later b3
      replace K2 := K2.later b3
      have F5 := K5.four
      have F5' := (K5.set_ 2 (.int .i64 pv)).four
      have hne : w.heap.size ≠ w1.heap.size := by have := b1.size; simp at this; omega
      have K2' := K2.far (p := ⟨w1.heap.size, 2, none⟩) hne (.int .i64 pv)
      have F2 := K2'.four
      have d3 := below_step d2 b3 (Nat.le_refl _)
      have d4 := d3.setCell (p := ⟨w1.heap.size, 2, none⟩) d1.size (.int .i64 pv)
      go_wp2_with fail
      obtain ⟨⟨r0, r1, r2, r3⟩, _⟩ := (K2'.store4 (.int .i64 2) (.string (T txt)) (.int .i64 pv) (.int .i64 0)).four
      exact bodyPost_ret (v := .tuple #[tkV 2 txt pv 0, .bool true]) (by simp [results, Try.results28, go_sem, r0, r1, r2, r3, tkV]) rfl ⟨by rw [HV.out.1, HV.out.2], below_set4 d4 (Nat.le_refl _) _ _ _ _ _ _ _ _⟩
end Go.Proofs.Ytnppihlalhaldaa
