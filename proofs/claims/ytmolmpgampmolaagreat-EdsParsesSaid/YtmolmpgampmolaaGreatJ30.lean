/-
  Texts joined: LexOneN.
  Conditions: none.
-/
import Derived.Test.YtmolmpgampmolaaGreatJ28
/-
  Walk: the reference of package lex: one (numbers).
  Conditions: none.
-/
namespace Go.Proofs.YtmolmpgampmolaaGreat
set_option linter.unusedVariables false
set_option linter.unusedSimpArgs false
open Go.RowKit
set_option maxRecDepth 100000 in
set_option maxHeartbeats 4000000 in
theorem one_num_a (s : List UInt8) (i : Nat) (c : UInt8) (r : List UInt8) (w : World) (hs : s.length ≤ 10000) (hi : i < s.length) (hd : s.drop i = c :: r) (hL : Lx.isL c = false) (h48 : c ≠ 48) (hD : Ty.isD c = true) (hg : (Ty.parN (c :: r.takeWhile Ty.isD)).2 = 0) : Calls Tryz.prog 53 #[.string (T s), .int .i64 (i : Int)] w (OneP (Lx.tokC c r) i w) := by
  have hT := T_size s
  have hat := fun w => run_T_at s .i64 i i rfl hi w
  have hc : s.getD i 0 = c := by
    rw [drop_cons hi] at hd
    exact (List.cons.inj hd).1
  have hr : s.drop (i + 1) = r := by
    rw [drop_cons hi] at hd
    exact (List.cons.inj hd).2
  rw [hc] at hat
  have hrl : r.length + 1 + i = s.length := by rw [← hr, List.length_drop]; omega
  have b0 := alloc_one w (.cells tk0C 56)
  unfold tk0C at b0
  have L := fun w => ref_letter c w
  have D := fun w => ref_digit c w
  have X := tokX_at (c := c) hr
  have DD := tokD_at (c := c) hr
  have DT := dot_at hr
  have A1 := fun w => at_z s ((i : Int) + 1) (i + 1) (by omega) (by omega) (by omega) w
  have A2 := fun w => at_z s ((i : Int) + 2) (i + 2) (by omega) (by omega) (by omega) w
  have H2 := fun w => ref_hex (s.getD (i + 2) 0) w
  have D1 := fun w => ref_digit (s.getD (i + 1) 0) w
  rw [hL] at L
  rw [hD] at D
  have hX : Lx.tokX c r = false := by rw [X, beq_false_of_ne h48]; rfl
  have hDt : Lx.tokD c r = true := by rw [DD, hD]; rfl
  have e48 := byte_ne (k := 48) h48 rfl
  clear h48 hD
  have hv : Lx.tokC c r = if (Ty.parN (c :: r.takeWhile Ty.isD)).2 ≠ 0 then (Lx.tk0, 12) else (⟨2, c :: r.takeWhile Ty.isD, (Ty.parN (c :: r.takeWhile Ty.isD)).1, 0⟩, 0) := by unfold Lx.tokC; rw [if_neg (by rw [hL]; decide), if_neg (by rw [hX]; decide), if_pos hDt]
  have W := fun w => digits_z s ((i : Int) + 1) (i + 1) (by omega) (by omega) (by omega) w
  rw [hr] at W
  have htk : (s.drop i).take (1 + (r.takeWhile Ty.isD).length) = c :: r.takeWhile Ty.isD := by rw [hd, Nat.add_comm, List.take_succ_cons, take_tw]
  have hle : i + (1 + (r.takeWhile Ty.isD).length) ≤ s.length := by
    have := (List.takeWhile_prefix Ty.isD (l := r)).length_le
    omega
  have hcut := fun w => run_T_cut s .i64 .i64 (i : Int) ((i : Int) + (1 + ((r.takeWhile Ty.isD).length : Int))) i (i + (1 + (r.takeWhile Ty.isD).length)) rfl (by omega) (by omega) hle (by omega) w
  rw [cut_text htk] at hcut
  have P := fun w => RParse_anyT 21 (c :: r.takeWhile Ty.isD) w (by rw [List.length_cons]; omega)
  have hp := par21 (c :: r.takeWhile Ty.isD)
  clear hX hDt hL htk
  clear hc hr hd hrl A1 A2 X DD DT H2 D1
  generalize Lx.tokC c r = res at *
  generalize (c :: r.takeWhile Ty.isD : List UInt8) = txt at *
  generalize (r.takeWhile Ty.isD).length = m at *
  replace L := Lib.hid L; replace D := Lib.hid D; replace W := Lib.hid W
  have hp0 : (Ty.parN txt).2 = 0 ∧ ∃ b, Ty.parseS 21 txt = (b, 0) ∧ Ty.decS 21 b = ((Ty.parN txt).1, 0) ∧ b.length = 8 := hp.resolve_left fun h => h.1 hg
  obtain ⟨_, b, p1, p2, p3⟩ := hp0
  rw [p1] at P
  rw [if_neg (by rw [hg]; decide)] at hv
  have hG := get_dec p3
  rw [p2] at hG
  generalize (Ty.parN txt).1 = v at *
  have HV := Lib.hid hv; have HG := Lib.hid hG; have HP := Lib.hid p3
  clear hv hp hg p1 p2 p3 hG
  replace P := Lib.hid P
  go_enter Tryz.func53, Tryz.ntmps53
  go_wp2_with fail
  refine (L.out _).mono ?_
  rintro e _ ⟨rfl, rfl⟩
  go_wp2_with fail
  refine (D.out _).mono ?_
  rintro e _ ⟨rfl, rfl⟩
  go_wp2_with fail
  refine (W.out _).mono ?_
  rintro e _ ⟨rfl, rfl⟩
  go_wp2_with fail
  refine (P.out _).mono ?_
  rintro e w1 ⟨A1, c1, rfl, o1, b1⟩
  dsimp only at o1
  have K1 := Blk.made b1
  have d1 := below_step (alloc_one _ _) b1 (Nat.le_refl _)
  have G := RGetInt_any 0 8 w1 o1.rb
  rw [HG.out] at G
  replace G := Lib.hid G
  have F1 := K1.four
  clear o1
  go_wp2_with fail
  refine (G.out).mono ?_
  rintro e _ ⟨rfl, rfl⟩
  go_wp2_with fail
  obtain ⟨⟨r0, r1, r2, r3⟩, _⟩ := (K1.store4 (.int .i64 2) (.string (T txt)) (.int .i64 v) (.int .i64 (i : Int))).four
  exact bodyPost_ret (v := .tuple #[tkV 2 txt v (i : Int), .int .i64 0]) (by simp [results, Tryz.results53, go_sem, r0, r1, r2, r3, tkV]) rfl (one_mk HV.out (below_set4 d1 (Nat.le_refl _) _ _ _ _ _ _ _ _))
set_option maxRecDepth 100000 in
set_option maxHeartbeats 4000000 in
theorem one_num_a_no (s : List UInt8) (i : Nat) (c : UInt8) (r : List UInt8) (w : World) (hs : s.length ≤ 10000) (hi : i < s.length) (hd : s.drop i = c :: r) (hL : Lx.isL c = false) (h48 : c ≠ 48) (hD : Ty.isD c = true) (hg : (Ty.parN (c :: r.takeWhile Ty.isD)).2 ≠ 0) : Calls Tryz.prog 53 #[.string (T s), .int .i64 (i : Int)] w (OneP (Lx.tokC c r) i w) := by
  have hT := T_size s
  have hat := fun w => run_T_at s .i64 i i rfl hi w
  have hc : s.getD i 0 = c := by
    rw [drop_cons hi] at hd
    exact (List.cons.inj hd).1
  have hr : s.drop (i + 1) = r := by
    rw [drop_cons hi] at hd
    exact (List.cons.inj hd).2
  rw [hc] at hat
  have hrl : r.length + 1 + i = s.length := by rw [← hr, List.length_drop]; omega
  have b0 := alloc_one w (.cells tk0C 56)
  unfold tk0C at b0
  have L := fun w => ref_letter c w
  have D := fun w => ref_digit c w
  have X := tokX_at (c := c) hr
  have DD := tokD_at (c := c) hr
  have DT := dot_at hr
  have A1 := fun w => at_z s ((i : Int) + 1) (i + 1) (by omega) (by omega) (by omega) w
  have A2 := fun w => at_z s ((i : Int) + 2) (i + 2) (by omega) (by omega) (by omega) w
  have H2 := fun w => ref_hex (s.getD (i + 2) 0) w
  have D1 := fun w => ref_digit (s.getD (i + 1) 0) w
  rw [hL] at L
  rw [hD] at D
  have hX : Lx.tokX c r = false := by rw [X, beq_false_of_ne h48]; rfl
  have hDt : Lx.tokD c r = true := by rw [DD, hD]; rfl
  have e48 := byte_ne (k := 48) h48 rfl
  clear h48 hD
  have hv : Lx.tokC c r = if (Ty.parN (c :: r.takeWhile Ty.isD)).2 ≠ 0 then (Lx.tk0, 12) else (⟨2, c :: r.takeWhile Ty.isD, (Ty.parN (c :: r.takeWhile Ty.isD)).1, 0⟩, 0) := by unfold Lx.tokC; rw [if_neg (by rw [hL]; decide), if_neg (by rw [hX]; decide), if_pos hDt]
  have W := fun w => digits_z s ((i : Int) + 1) (i + 1) (by omega) (by omega) (by omega) w
  rw [hr] at W
  have htk : (s.drop i).take (1 + (r.takeWhile Ty.isD).length) = c :: r.takeWhile Ty.isD := by rw [hd, Nat.add_comm, List.take_succ_cons, take_tw]
  have hle : i + (1 + (r.takeWhile Ty.isD).length) ≤ s.length := by
    have := (List.takeWhile_prefix Ty.isD (l := r)).length_le
    omega
  have hcut := fun w => run_T_cut s .i64 .i64 (i : Int) ((i : Int) + (1 + ((r.takeWhile Ty.isD).length : Int))) i (i + (1 + (r.takeWhile Ty.isD).length)) rfl (by omega) (by omega) hle (by omega) w
  rw [cut_text htk] at hcut
  have P := fun w => RParse_anyT 21 (c :: r.takeWhile Ty.isD) w (by rw [List.length_cons]; omega)
  have hp := par21 (c :: r.takeWhile Ty.isD)
  clear hX hDt hL htk
  clear hc hr hd hrl A1 A2 X DD DT H2 D1
  generalize Lx.tokC c r = res at *
  generalize (c :: r.takeWhile Ty.isD : List UInt8) = txt at *
  generalize (r.takeWhile Ty.isD).length = m at *
  replace L := Lib.hid L; replace D := Lib.hid D; replace W := Lib.hid W
  have hp0 := hp.resolve_right fun h => hg h.1
  obtain ⟨_, p1⟩ := hp0
  rw [p1] at P
  rw [if_pos hg] at hv
  generalize (Ty.parN txt).2 = x at *
  have hx : (x != 0) = true := by simpa using hg
  have HV := Lib.hid hv
  clear hv hp hg p1
  replace P := Lib.hid P
  go_enter Tryz.func53, Tryz.ntmps53
  go_wp2_with fail
  refine (L.out _).mono ?_
  rintro e _ ⟨rfl, rfl⟩
  go_wp2_with fail
  refine (D.out _).mono ?_
  rintro e _ ⟨rfl, rfl⟩
  go_wp2_with fail
  refine (W.out _).mono ?_
  rintro e _ ⟨rfl, rfl⟩
  go_wp2_with fail
  refine (P.out _).mono ?_
  rintro e w1 ⟨A1, c1, rfl, o1, b1⟩
  have K1 := Blk.made b1
  have d1 := below_step (alloc_one _ _) b1 (Nat.le_refl _)
  have F1 := K1.four
  clear o1
  go_wp2_with fail
  obtain ⟨⟨r0, r1, r2, r3⟩, _⟩ := (K1.store4 (.int .i64 0) (.string ⟨#[]⟩) (.int .i64 0) (.int .i64 0)).four
  exact bodyPost_ret (v := .tuple #[tkV 0 [] 0 0, .int .i64 12]) (by simp [results, Tryz.results53, go_sem, r0, r1, r2, r3, tkV, show T [] = (⟨#[]⟩ : ByteArray) from rfl]) rfl (one_no HV.out (by decide) (below_set4 d1 (Nat.le_refl _) _ _ _ _ _ _ _ _))
set_option maxRecDepth 100000 in
set_option maxHeartbeats 4000000 in
theorem one_num_b (s : List UInt8) (i : Nat) (c : UInt8) (r : List UInt8) (w : World) (hs : s.length ≤ 10000) (hi : i < s.length) (hd : s.drop i = c :: r) (h48 : c = 48) (hx : s.getD (i + 1) 0 ≠ 120) (hg : (Ty.parN (48 :: r.takeWhile Ty.isD)).2 = 0) : Calls Tryz.prog 53 #[.string (T s), .int .i64 (i : Int)] w (OneP (Lx.tokC c r) i w) := by
  have hT := T_size s
  have hat := fun w => run_T_at s .i64 i i rfl hi w
  have hc : s.getD i 0 = c := by
    rw [drop_cons hi] at hd
    exact (List.cons.inj hd).1
  have hr : s.drop (i + 1) = r := by
    rw [drop_cons hi] at hd
    exact (List.cons.inj hd).2
  rw [hc] at hat
  have hrl : r.length + 1 + i = s.length := by rw [← hr, List.length_drop]; omega
  have b0 := alloc_one w (.cells tk0C 56)
  unfold tk0C at b0
  have L := fun w => ref_letter c w
  have D := fun w => ref_digit c w
  have X := tokX_at (c := c) hr
  have DD := tokD_at (c := c) hr
  have DT := dot_at hr
  have A1 := fun w => at_z s ((i : Int) + 1) (i + 1) (by omega) (by omega) (by omega) w
  have A2 := fun w => at_z s ((i : Int) + 2) (i + 2) (by omega) (by omega) (by omega) w
  have H2 := fun w => ref_hex (s.getD (i + 2) 0) w
  have D1 := fun w => ref_digit (s.getD (i + 1) 0) w
  subst h48
  have hL : Lx.isL 48 = false := by decide
  have hDc : Ty.isD 48 = true := by decide
  rw [hL] at L; rw [hDc] at D
  have hX : Lx.tokX 48 r = false := by rw [X, beq_false_of_ne hx]; rfl
  have hDt : Lx.tokD 48 r = true := by rw [DD, hDc]; rfl
  have e120 := byte_ne (k := 120) hx rfl
  generalize s.getD (i + 1) 0 = x1 at *
  clear hx hDc
  have hv : Lx.tokC 48 r = if (Ty.parN (48 :: r.takeWhile Ty.isD)).2 ≠ 0 then (Lx.tk0, 12) else (⟨2, 48 :: r.takeWhile Ty.isD, (Ty.parN (48 :: r.takeWhile Ty.isD)).1, 0⟩, 0) := by unfold Lx.tokC; rw [if_neg (by rw [hL]; decide), if_neg (by rw [hX]; decide), if_pos hDt]
  have W := fun w => digits_z s ((i : Int) + 1) (i + 1) (by omega) (by omega) (by omega) w
  rw [hr] at W
  have htk : (s.drop i).take (1 + (r.takeWhile Ty.isD).length) = 48 :: r.takeWhile Ty.isD := by rw [hd, Nat.add_comm, List.take_succ_cons, take_tw]
  have hle : i + (1 + (r.takeWhile Ty.isD).length) ≤ s.length := by
    have := (List.takeWhile_prefix Ty.isD (l := r)).length_le
    omega
  have hcut := fun w => run_T_cut s .i64 .i64 (i : Int) ((i : Int) + (1 + ((r.takeWhile Ty.isD).length : Int))) i (i + (1 + (r.takeWhile Ty.isD).length)) rfl (by omega) (by omega) hle (by omega) w
  rw [cut_text htk] at hcut
  have P := fun w => RParse_anyT 21 (48 :: r.takeWhile Ty.isD) w (by rw [List.length_cons]; omega)
  have hp := par21 (48 :: r.takeWhile Ty.isD)
  clear hX hDt hL htk
  clear hc hr hd hrl A2 X DD DT H2 D1
  generalize Lx.tokC 48 r = res at *
  generalize (48 :: r.takeWhile Ty.isD : List UInt8) = txt at *
  generalize (r.takeWhile Ty.isD).length = m at *
  replace L := Lib.hid L; replace D := Lib.hid D; replace W := Lib.hid W; replace A1 := Lib.hid A1
  have hp0 : (Ty.parN txt).2 = 0 ∧ ∃ b, Ty.parseS 21 txt = (b, 0) ∧ Ty.decS 21 b = ((Ty.parN txt).1, 0) ∧ b.length = 8 := hp.resolve_left fun h => h.1 hg
  obtain ⟨_, b, p1, p2, p3⟩ := hp0
  rw [p1] at P
  rw [if_neg (by rw [hg]; decide)] at hv
  have hG := get_dec p3
  rw [p2] at hG
  generalize (Ty.parN txt).1 = v at *
  have HV := Lib.hid hv; have HG := Lib.hid hG; have HP := Lib.hid p3
  clear hv hp hg p1 p2 p3 hG
  replace P := Lib.hid P
  go_enter Tryz.func53, Tryz.ntmps53
  go_wp2_with fail
  refine (L.out _).mono ?_
  rintro e _ ⟨rfl, rfl⟩
  go_wp2_with fail
  refine (A1.out _).mono ?_
  rintro e _ ⟨rfl, rfl⟩
  go_wp2_with fail
  refine (D.out _).mono ?_
  rintro e _ ⟨rfl, rfl⟩
  go_wp2_with fail
  refine (W.out _).mono ?_
  rintro e _ ⟨rfl, rfl⟩
  go_wp2_with fail
  refine (P.out _).mono ?_
  rintro e w1 ⟨A1, c1, rfl, o1, b1⟩
  dsimp only at o1
  have K1 := Blk.made b1
  have d1 := below_step (alloc_one _ _) b1 (Nat.le_refl _)
  have G := RGetInt_any 0 8 w1 o1.rb
  rw [HG.out] at G
  replace G := Lib.hid G
  have F1 := K1.four
  clear o1
  go_wp2_with fail
  refine (G.out).mono ?_
  rintro e _ ⟨rfl, rfl⟩
  go_wp2_with fail
  obtain ⟨⟨r0, r1, r2, r3⟩, _⟩ := (K1.store4 (.int .i64 2) (.string (T txt)) (.int .i64 v) (.int .i64 (i : Int))).four
  exact bodyPost_ret (v := .tuple #[tkV 2 txt v (i : Int), .int .i64 0]) (by simp [results, Tryz.results53, go_sem, r0, r1, r2, r3, tkV]) rfl (one_mk HV.out (below_set4 d1 (Nat.le_refl _) _ _ _ _ _ _ _ _))
set_option maxRecDepth 100000 in
set_option maxHeartbeats 4000000 in
theorem one_num_b_no (s : List UInt8) (i : Nat) (c : UInt8) (r : List UInt8) (w : World) (hs : s.length ≤ 10000) (hi : i < s.length) (hd : s.drop i = c :: r) (h48 : c = 48) (hx : s.getD (i + 1) 0 ≠ 120) (hg : (Ty.parN (48 :: r.takeWhile Ty.isD)).2 ≠ 0) : Calls Tryz.prog 53 #[.string (T s), .int .i64 (i : Int)] w (OneP (Lx.tokC c r) i w) := by
  have hT := T_size s
  have hat := fun w => run_T_at s .i64 i i rfl hi w
  have hc : s.getD i 0 = c := by
    rw [drop_cons hi] at hd
    exact (List.cons.inj hd).1
  have hr : s.drop (i + 1) = r := by
    rw [drop_cons hi] at hd
    exact (List.cons.inj hd).2
  rw [hc] at hat
  have hrl : r.length + 1 + i = s.length := by rw [← hr, List.length_drop]; omega
  have b0 := alloc_one w (.cells tk0C 56)
  unfold tk0C at b0
  have L := fun w => ref_letter c w
  have D := fun w => ref_digit c w
  have X := tokX_at (c := c) hr
  have DD := tokD_at (c := c) hr
  have DT := dot_at hr
  have A1 := fun w => at_z s ((i : Int) + 1) (i + 1) (by omega) (by omega) (by omega) w
  have A2 := fun w => at_z s ((i : Int) + 2) (i + 2) (by omega) (by omega) (by omega) w
  have H2 := fun w => ref_hex (s.getD (i + 2) 0) w
  have D1 := fun w => ref_digit (s.getD (i + 1) 0) w
  subst h48
  have hL : Lx.isL 48 = false := by decide
  have hDc : Ty.isD 48 = true := by decide
  rw [hL] at L; rw [hDc] at D
  have hX : Lx.tokX 48 r = false := by rw [X, beq_false_of_ne hx]; rfl
  have hDt : Lx.tokD 48 r = true := by rw [DD, hDc]; rfl
  have e120 := byte_ne (k := 120) hx rfl
  generalize s.getD (i + 1) 0 = x1 at *
  clear hx hDc
  have hv : Lx.tokC 48 r = if (Ty.parN (48 :: r.takeWhile Ty.isD)).2 ≠ 0 then (Lx.tk0, 12) else (⟨2, 48 :: r.takeWhile Ty.isD, (Ty.parN (48 :: r.takeWhile Ty.isD)).1, 0⟩, 0) := by unfold Lx.tokC; rw [if_neg (by rw [hL]; decide), if_neg (by rw [hX]; decide), if_pos hDt]
  have W := fun w => digits_z s ((i : Int) + 1) (i + 1) (by omega) (by omega) (by omega) w
  rw [hr] at W
  have htk : (s.drop i).take (1 + (r.takeWhile Ty.isD).length) = 48 :: r.takeWhile Ty.isD := by rw [hd, Nat.add_comm, List.take_succ_cons, take_tw]
  have hle : i + (1 + (r.takeWhile Ty.isD).length) ≤ s.length := by
    have := (List.takeWhile_prefix Ty.isD (l := r)).length_le
    omega
  have hcut := fun w => run_T_cut s .i64 .i64 (i : Int) ((i : Int) + (1 + ((r.takeWhile Ty.isD).length : Int))) i (i + (1 + (r.takeWhile Ty.isD).length)) rfl (by omega) (by omega) hle (by omega) w
  rw [cut_text htk] at hcut
  have P := fun w => RParse_anyT 21 (48 :: r.takeWhile Ty.isD) w (by rw [List.length_cons]; omega)
  have hp := par21 (48 :: r.takeWhile Ty.isD)
  clear hX hDt hL htk
  clear hc hr hd hrl A2 X DD DT H2 D1
  generalize Lx.tokC 48 r = res at *
  generalize (48 :: r.takeWhile Ty.isD : List UInt8) = txt at *
  generalize (r.takeWhile Ty.isD).length = m at *
  replace L := Lib.hid L; replace D := Lib.hid D; replace W := Lib.hid W; replace A1 := Lib.hid A1
  have hp0 := hp.resolve_right fun h => hg h.1
  obtain ⟨_, p1⟩ := hp0
  rw [p1] at P
  rw [if_pos hg] at hv
  generalize (Ty.parN txt).2 = x at *
  have hx : (x != 0) = true := by simpa using hg
  have HV := Lib.hid hv
  clear hv hp hg p1
  replace P := Lib.hid P
  go_enter Tryz.func53, Tryz.ntmps53
  go_wp2_with fail
  refine (L.out _).mono ?_
  rintro e _ ⟨rfl, rfl⟩
  go_wp2_with fail
  refine (A1.out _).mono ?_
  rintro e _ ⟨rfl, rfl⟩
  go_wp2_with fail
  refine (D.out _).mono ?_
  rintro e _ ⟨rfl, rfl⟩
  go_wp2_with fail
  refine (W.out _).mono ?_
  rintro e _ ⟨rfl, rfl⟩
  go_wp2_with fail
  refine (P.out _).mono ?_
  rintro e w1 ⟨A1, c1, rfl, o1, b1⟩
  have K1 := Blk.made b1
  have d1 := below_step (alloc_one _ _) b1 (Nat.le_refl _)
  have F1 := K1.four
  clear o1
  go_wp2_with fail
  obtain ⟨⟨r0, r1, r2, r3⟩, _⟩ := (K1.store4 (.int .i64 0) (.string ⟨#[]⟩) (.int .i64 0) (.int .i64 0)).four
  exact bodyPost_ret (v := .tuple #[tkV 0 [] 0 0, .int .i64 12]) (by simp [results, Tryz.results53, go_sem, r0, r1, r2, r3, tkV, show T [] = (⟨#[]⟩ : ByteArray) from rfl]) rfl (one_no HV.out (by decide) (below_set4 d1 (Nat.le_refl _) _ _ _ _ _ _ _ _))
set_option maxRecDepth 100000 in
set_option maxHeartbeats 4000000 in
theorem one_num_c (s : List UInt8) (i : Nat) (c : UInt8) (r : List UInt8) (w : World) (hs : s.length ≤ 10000) (hi : i < s.length) (hd : s.drop i = c :: r) (h48 : c = 48) (hx : s.getD (i + 1) 0 = 120) (hy : Lx.isH (s.getD (i + 2) 0) = false) (hg : (Ty.parN (48 :: r.takeWhile Ty.isD)).2 = 0) : Calls Tryz.prog 53 #[.string (T s), .int .i64 (i : Int)] w (OneP (Lx.tokC c r) i w) := by
  have hT := T_size s
  have hat := fun w => run_T_at s .i64 i i rfl hi w
  have hc : s.getD i 0 = c := by
    rw [drop_cons hi] at hd
    exact (List.cons.inj hd).1
  have hr : s.drop (i + 1) = r := by
    rw [drop_cons hi] at hd
    exact (List.cons.inj hd).2
  rw [hc] at hat
  have hrl : r.length + 1 + i = s.length := by rw [← hr, List.length_drop]; omega
  have b0 := alloc_one w (.cells tk0C 56)
  unfold tk0C at b0
  have L := fun w => ref_letter c w
  have D := fun w => ref_digit c w
  have X := tokX_at (c := c) hr
  have DD := tokD_at (c := c) hr
  have DT := dot_at hr
  have A1 := fun w => at_z s ((i : Int) + 1) (i + 1) (by omega) (by omega) (by omega) w
  have A2 := fun w => at_z s ((i : Int) + 2) (i + 2) (by omega) (by omega) (by omega) w
  have H2 := fun w => ref_hex (s.getD (i + 2) 0) w
  have D1 := fun w => ref_digit (s.getD (i + 1) 0) w
  subst h48
  have hL : Lx.isL 48 = false := by decide
  have hDc : Ty.isD 48 = true := by decide
  rw [hL] at L; rw [hDc] at D
  have hX : Lx.tokX 48 r = false := by rw [X, hy, Bool.and_false]
  have hDt : Lx.tokD 48 r = true := by rw [DD, hDc]; rfl
  rw [hx] at A1
  rw [hy] at H2
  generalize s.getD (i + 2) 0 = y at *
  clear hx hDc hy
  have hv : Lx.tokC 48 r = if (Ty.parN (48 :: r.takeWhile Ty.isD)).2 ≠ 0 then (Lx.tk0, 12) else (⟨2, 48 :: r.takeWhile Ty.isD, (Ty.parN (48 :: r.takeWhile Ty.isD)).1, 0⟩, 0) := by unfold Lx.tokC; rw [if_neg (by rw [hL]; decide), if_neg (by rw [hX]; decide), if_pos hDt]
  have W := fun w => digits_z s ((i : Int) + 1) (i + 1) (by omega) (by omega) (by omega) w
  rw [hr] at W
  have htk : (s.drop i).take (1 + (r.takeWhile Ty.isD).length) = 48 :: r.takeWhile Ty.isD := by rw [hd, Nat.add_comm, List.take_succ_cons, take_tw]
  have hle : i + (1 + (r.takeWhile Ty.isD).length) ≤ s.length := by
    have := (List.takeWhile_prefix Ty.isD (l := r)).length_le
    omega
  have hcut := fun w => run_T_cut s .i64 .i64 (i : Int) ((i : Int) + (1 + ((r.takeWhile Ty.isD).length : Int))) i (i + (1 + (r.takeWhile Ty.isD).length)) rfl (by omega) (by omega) hle (by omega) w
  rw [cut_text htk] at hcut
  have P := fun w => RParse_anyT 21 (48 :: r.takeWhile Ty.isD) w (by rw [List.length_cons]; omega)
  have hp := par21 (48 :: r.takeWhile Ty.isD)
  clear hX hDt hL htk
  clear hc hr hd hrl X DD DT D1
  generalize Lx.tokC 48 r = res at *
  generalize (48 :: r.takeWhile Ty.isD : List UInt8) = txt at *
  generalize (r.takeWhile Ty.isD).length = m at *
  replace L := Lib.hid L; replace D := Lib.hid D; replace W := Lib.hid W; replace A1 := Lib.hid A1; replace A2 := Lib.hid A2; replace H2 := Lib.hid H2
  have hp0 : (Ty.parN txt).2 = 0 ∧ ∃ b, Ty.parseS 21 txt = (b, 0) ∧ Ty.decS 21 b = ((Ty.parN txt).1, 0) ∧ b.length = 8 := hp.resolve_left fun h => h.1 hg
  obtain ⟨_, b, p1, p2, p3⟩ := hp0
  rw [p1] at P
  rw [if_neg (by rw [hg]; decide)] at hv
  have hG := get_dec p3
  rw [p2] at hG
  generalize (Ty.parN txt).1 = v at *
  have HV := Lib.hid hv; have HG := Lib.hid hG; have HP := Lib.hid p3
  clear hv hp hg p1 p2 p3 hG
  replace P := Lib.hid P
  go_enter Tryz.func53, Tryz.ntmps53
  go_wp2_with fail
  refine (L.out _).mono ?_
  rintro e _ ⟨rfl, rfl⟩
  go_wp2_with fail
  refine (A1.out _).mono ?_
  rintro e _ ⟨rfl, rfl⟩
  go_wp2_with fail
  refine (A2.out _).mono ?_
  rintro e _ ⟨rfl, rfl⟩
  go_wp2_with fail
  refine (H2.out _).mono ?_
  rintro e _ ⟨rfl, rfl⟩
  go_wp2_with fail
  refine (D.out _).mono ?_
  rintro e _ ⟨rfl, rfl⟩
  go_wp2_with fail
  refine (W.out _).mono ?_
  rintro e _ ⟨rfl, rfl⟩
  go_wp2_with fail
  refine (P.out _).mono ?_
  rintro e w1 ⟨A1, c1, rfl, o1, b1⟩
  dsimp only at o1
  have K1 := Blk.made b1
  have d1 := below_step (alloc_one _ _) b1 (Nat.le_refl _)
  have G := RGetInt_any 0 8 w1 o1.rb
  rw [HG.out] at G
  replace G := Lib.hid G
  have F1 := K1.four
  clear o1
  go_wp2_with fail
  refine (G.out).mono ?_
  rintro e _ ⟨rfl, rfl⟩
  go_wp2_with fail
  obtain ⟨⟨r0, r1, r2, r3⟩, _⟩ := (K1.store4 (.int .i64 2) (.string (T txt)) (.int .i64 v) (.int .i64 (i : Int))).four
  exact bodyPost_ret (v := .tuple #[tkV 2 txt v (i : Int), .int .i64 0]) (by simp [results, Tryz.results53, go_sem, r0, r1, r2, r3, tkV]) rfl (one_mk HV.out (below_set4 d1 (Nat.le_refl _) _ _ _ _ _ _ _ _))
set_option maxRecDepth 100000 in
set_option maxHeartbeats 4000000 in
theorem one_num_c_no (s : List UInt8) (i : Nat) (c : UInt8) (r : List UInt8) (w : World) (hs : s.length ≤ 10000) (hi : i < s.length) (hd : s.drop i = c :: r) (h48 : c = 48) (hx : s.getD (i + 1) 0 = 120) (hy : Lx.isH (s.getD (i + 2) 0) = false) (hg : (Ty.parN (48 :: r.takeWhile Ty.isD)).2 ≠ 0) : Calls Tryz.prog 53 #[.string (T s), .int .i64 (i : Int)] w (OneP (Lx.tokC c r) i w) := by
  have hT := T_size s
  have hat := fun w => run_T_at s .i64 i i rfl hi w
  have hc : s.getD i 0 = c := by
    rw [drop_cons hi] at hd
    exact (List.cons.inj hd).1
  have hr : s.drop (i + 1) = r := by
    rw [drop_cons hi] at hd
    exact (List.cons.inj hd).2
  rw [hc] at hat
  have hrl : r.length + 1 + i = s.length := by rw [← hr, List.length_drop]; omega
  have b0 := alloc_one w (.cells tk0C 56)
  unfold tk0C at b0
  have L := fun w => ref_letter c w
  have D := fun w => ref_digit c w
  have X := tokX_at (c := c) hr
  have DD := tokD_at (c := c) hr
  have DT := dot_at hr
  have A1 := fun w => at_z s ((i : Int) + 1) (i + 1) (by omega) (by omega) (by omega) w
  have A2 := fun w => at_z s ((i : Int) + 2) (i + 2) (by omega) (by omega) (by omega) w
  have H2 := fun w => ref_hex (s.getD (i + 2) 0) w
  have D1 := fun w => ref_digit (s.getD (i + 1) 0) w
  subst h48
  have hL : Lx.isL 48 = false := by decide
  have hDc : Ty.isD 48 = true := by decide
  rw [hL] at L; rw [hDc] at D
  have hX : Lx.tokX 48 r = false := by rw [X, hy, Bool.and_false]
  have hDt : Lx.tokD 48 r = true := by rw [DD, hDc]; rfl
  rw [hx] at A1
  rw [hy] at H2
  generalize s.getD (i + 2) 0 = y at *
  clear hx hDc hy
  have hv : Lx.tokC 48 r = if (Ty.parN (48 :: r.takeWhile Ty.isD)).2 ≠ 0 then (Lx.tk0, 12) else (⟨2, 48 :: r.takeWhile Ty.isD, (Ty.parN (48 :: r.takeWhile Ty.isD)).1, 0⟩, 0) := by unfold Lx.tokC; rw [if_neg (by rw [hL]; decide), if_neg (by rw [hX]; decide), if_pos hDt]
  have W := fun w => digits_z s ((i : Int) + 1) (i + 1) (by omega) (by omega) (by omega) w
  rw [hr] at W
  have htk : (s.drop i).take (1 + (r.takeWhile Ty.isD).length) = 48 :: r.takeWhile Ty.isD := by rw [hd, Nat.add_comm, List.take_succ_cons, take_tw]
  have hle : i + (1 + (r.takeWhile Ty.isD).length) ≤ s.length := by
    have := (List.takeWhile_prefix Ty.isD (l := r)).length_le
    omega
  have hcut := fun w => run_T_cut s .i64 .i64 (i : Int) ((i : Int) + (1 + ((r.takeWhile Ty.isD).length : Int))) i (i + (1 + (r.takeWhile Ty.isD).length)) rfl (by omega) (by omega) hle (by omega) w
  rw [cut_text htk] at hcut
  have P := fun w => RParse_anyT 21 (48 :: r.takeWhile Ty.isD) w (by rw [List.length_cons]; omega)
  have hp := par21 (48 :: r.takeWhile Ty.isD)
  clear hX hDt hL htk
  clear hc hr hd hrl X DD DT D1
  generalize Lx.tokC 48 r = res at *
  generalize (48 :: r.takeWhile Ty.isD : List UInt8) = txt at *
  generalize (r.takeWhile Ty.isD).length = m at *
  replace L := Lib.hid L; replace D := Lib.hid D; replace W := Lib.hid W; replace A1 := Lib.hid A1; replace A2 := Lib.hid A2; replace H2 := Lib.hid H2
  have hp0 := hp.resolve_right fun h => hg h.1
  obtain ⟨_, p1⟩ := hp0
  rw [p1] at P
  rw [if_pos hg] at hv
  generalize (Ty.parN txt).2 = x at *
  have hx : (x != 0) = true := by simpa using hg
  have HV := Lib.hid hv
  clear hv hp hg p1
  replace P := Lib.hid P
  go_enter Tryz.func53, Tryz.ntmps53
  go_wp2_with fail
  refine (L.out _).mono ?_
  rintro e _ ⟨rfl, rfl⟩
  go_wp2_with fail
  refine (A1.out _).mono ?_
  rintro e _ ⟨rfl, rfl⟩
  go_wp2_with fail
  refine (A2.out _).mono ?_
  rintro e _ ⟨rfl, rfl⟩
  go_wp2_with fail
  refine (H2.out _).mono ?_
  rintro e _ ⟨rfl, rfl⟩
  go_wp2_with fail
  refine (D.out _).mono ?_
  rintro e _ ⟨rfl, rfl⟩
  go_wp2_with fail
  refine (W.out _).mono ?_
  rintro e _ ⟨rfl, rfl⟩
  go_wp2_with fail
  refine (P.out _).mono ?_
  rintro e w1 ⟨A1, c1, rfl, o1, b1⟩
  have K1 := Blk.made b1
  have d1 := below_step (alloc_one _ _) b1 (Nat.le_refl _)
  have F1 := K1.four
  clear o1
  go_wp2_with fail
  obtain ⟨⟨r0, r1, r2, r3⟩, _⟩ := (K1.store4 (.int .i64 0) (.string ⟨#[]⟩) (.int .i64 0) (.int .i64 0)).four
  exact bodyPost_ret (v := .tuple #[tkV 0 [] 0 0, .int .i64 12]) (by simp [results, Tryz.results53, go_sem, r0, r1, r2, r3, tkV, show T [] = (⟨#[]⟩ : ByteArray) from rfl]) rfl (one_no HV.out (by decide) (below_set4 d1 (Nat.le_refl _) _ _ _ _ _ _ _ _))
set_option maxRecDepth 100000 in
set_option maxHeartbeats 4000000 in
theorem one_num_m (s : List UInt8) (i : Nat) (c : UInt8) (r : List UInt8) (w : World) (hs : s.length ≤ 10000) (hi : i < s.length) (hd : s.drop i = c :: r) (h45 : c = 45) (hx : Ty.isD (s.getD (i + 1) 0) = true) (hg : (Ty.parN (45 :: r.takeWhile Ty.isD)).2 = 0) : Calls Tryz.prog 53 #[.string (T s), .int .i64 (i : Int)] w (OneP (Lx.tokC c r) i w) := by
  have hT := T_size s
  have hat := fun w => run_T_at s .i64 i i rfl hi w
  have hc : s.getD i 0 = c := by
    rw [drop_cons hi] at hd
    exact (List.cons.inj hd).1
  have hr : s.drop (i + 1) = r := by
    rw [drop_cons hi] at hd
    exact (List.cons.inj hd).2
  rw [hc] at hat
  have hrl : r.length + 1 + i = s.length := by rw [← hr, List.length_drop]; omega
  have b0 := alloc_one w (.cells tk0C 56)
  unfold tk0C at b0
  have L := fun w => ref_letter c w
  have D := fun w => ref_digit c w
  have X := tokX_at (c := c) hr
  have DD := tokD_at (c := c) hr
  have DT := dot_at hr
  have A1 := fun w => at_z s ((i : Int) + 1) (i + 1) (by omega) (by omega) (by omega) w
  have A2 := fun w => at_z s ((i : Int) + 2) (i + 2) (by omega) (by omega) (by omega) w
  have H2 := fun w => ref_hex (s.getD (i + 2) 0) w
  have D1 := fun w => ref_digit (s.getD (i + 1) 0) w
  subst h45
  have hL : Lx.isL 45 = false := by decide
  have hDc : Ty.isD 45 = false := by decide
  rw [hL] at L; rw [hDc] at D
  have hX : Lx.tokX 45 r = false := by rw [X]; rfl
  have hDt : Lx.tokD 45 r = true := by rw [DD, hx]; rfl
  rw [hx] at D1
  generalize s.getD (i + 1) 0 = x1 at *
  clear hx hDc
  have hv : Lx.tokC 45 r = if (Ty.parN (45 :: r.takeWhile Ty.isD)).2 ≠ 0 then (Lx.tk0, 12) else (⟨2, 45 :: r.takeWhile Ty.isD, (Ty.parN (45 :: r.takeWhile Ty.isD)).1, 0⟩, 0) := by unfold Lx.tokC; rw [if_neg (by rw [hL]; decide), if_neg (by rw [hX]; decide), if_pos hDt]
  have W := fun w => digits_z s ((i : Int) + 1) (i + 1) (by omega) (by omega) (by omega) w
  rw [hr] at W
  have htk : (s.drop i).take (1 + (r.takeWhile Ty.isD).length) = 45 :: r.takeWhile Ty.isD := by rw [hd, Nat.add_comm, List.take_succ_cons, take_tw]
  have hle : i + (1 + (r.takeWhile Ty.isD).length) ≤ s.length := by
    have := (List.takeWhile_prefix Ty.isD (l := r)).length_le
    omega
  have hcut := fun w => run_T_cut s .i64 .i64 (i : Int) ((i : Int) + (1 + ((r.takeWhile Ty.isD).length : Int))) i (i + (1 + (r.takeWhile Ty.isD).length)) rfl (by omega) (by omega) hle (by omega) w
  rw [cut_text htk] at hcut
  have P := fun w => RParse_anyT 21 (45 :: r.takeWhile Ty.isD) w (by rw [List.length_cons]; omega)
  have hp := par21 (45 :: r.takeWhile Ty.isD)
  clear hX hDt hL htk
  clear hc hr hd hrl A2 X DD DT H2
  generalize Lx.tokC 45 r = res at *
  generalize (45 :: r.takeWhile Ty.isD : List UInt8) = txt at *
  generalize (r.takeWhile Ty.isD).length = m at *
  replace L := Lib.hid L; replace D := Lib.hid D; replace W := Lib.hid W; replace A1 := Lib.hid A1; replace D1 := Lib.hid D1
  have hp0 : (Ty.parN txt).2 = 0 ∧ ∃ b, Ty.parseS 21 txt = (b, 0) ∧ Ty.decS 21 b = ((Ty.parN txt).1, 0) ∧ b.length = 8 := hp.resolve_left fun h => h.1 hg
  obtain ⟨_, b, p1, p2, p3⟩ := hp0
  rw [p1] at P
  rw [if_neg (by rw [hg]; decide)] at hv
  have hG := get_dec p3
  rw [p2] at hG
  generalize (Ty.parN txt).1 = v at *
  have HV := Lib.hid hv; have HG := Lib.hid hG; have HP := Lib.hid p3
  clear hv hp hg p1 p2 p3 hG
  replace P := Lib.hid P
  go_enter Tryz.func53, Tryz.ntmps53
  go_wp2_with fail
  refine (L.out _).mono ?_
  rintro e _ ⟨rfl, rfl⟩
  go_wp2_with fail
  refine (D.out _).mono ?_
  rintro e _ ⟨rfl, rfl⟩
  go_wp2_with fail
  refine (A1.out _).mono ?_
  rintro e _ ⟨rfl, rfl⟩
  go_wp2_with fail
  refine (D1.out _).mono ?_
  rintro e _ ⟨rfl, rfl⟩
  go_wp2_with fail
  refine (W.out _).mono ?_
  rintro e _ ⟨rfl, rfl⟩
  go_wp2_with fail
  refine (P.out _).mono ?_
  rintro e w1 ⟨A1, c1, rfl, o1, b1⟩
  dsimp only at o1
  have K1 := Blk.made b1
  have d1 := below_step (alloc_one _ _) b1 (Nat.le_refl _)
  have G := RGetInt_any 0 8 w1 o1.rb
  rw [HG.out] at G
  replace G := Lib.hid G
  have F1 := K1.four
  clear o1
  go_wp2_with fail
  refine (G.out).mono ?_
  rintro e _ ⟨rfl, rfl⟩
  go_wp2_with fail
  obtain ⟨⟨r0, r1, r2, r3⟩, _⟩ := (K1.store4 (.int .i64 2) (.string (T txt)) (.int .i64 v) (.int .i64 (i : Int))).four
  exact bodyPost_ret (v := .tuple #[tkV 2 txt v (i : Int), .int .i64 0]) (by simp [results, Tryz.results53, go_sem, r0, r1, r2, r3, tkV]) rfl (one_mk HV.out (below_set4 d1 (Nat.le_refl _) _ _ _ _ _ _ _ _))
set_option maxRecDepth 100000 in
set_option maxHeartbeats 4000000 in
theorem one_num_m_no (s : List UInt8) (i : Nat) (c : UInt8) (r : List UInt8) (w : World) (hs : s.length ≤ 10000) (hi : i < s.length) (hd : s.drop i = c :: r) (h45 : c = 45) (hx : Ty.isD (s.getD (i + 1) 0) = true) (hg : (Ty.parN (45 :: r.takeWhile Ty.isD)).2 ≠ 0) : Calls Tryz.prog 53 #[.string (T s), .int .i64 (i : Int)] w (OneP (Lx.tokC c r) i w) := by
  have hT := T_size s
  have hat := fun w => run_T_at s .i64 i i rfl hi w
  have hc : s.getD i 0 = c := by
    rw [drop_cons hi] at hd
    exact (List.cons.inj hd).1
  have hr : s.drop (i + 1) = r := by
    rw [drop_cons hi] at hd
    exact (List.cons.inj hd).2
  rw [hc] at hat
  have hrl : r.length + 1 + i = s.length := by rw [← hr, List.length_drop]; omega
  have b0 := alloc_one w (.cells tk0C 56)
  unfold tk0C at b0
  have L := fun w => ref_letter c w
  have D := fun w => ref_digit c w
  have X := tokX_at (c := c) hr
  have DD := tokD_at (c := c) hr
  have DT := dot_at hr
  have A1 := fun w => at_z s ((i : Int) + 1) (i + 1) (by omega) (by omega) (by omega) w
  have A2 := fun w => at_z s ((i : Int) + 2) (i + 2) (by omega) (by omega) (by omega) w
  have H2 := fun w => ref_hex (s.getD (i + 2) 0) w
  have D1 := fun w => ref_digit (s.getD (i + 1) 0) w
  subst h45
  have hL : Lx.isL 45 = false := by decide
  have hDc : Ty.isD 45 = false := by decide
  rw [hL] at L; rw [hDc] at D
  have hX : Lx.tokX 45 r = false := by rw [X]; rfl
  have hDt : Lx.tokD 45 r = true := by rw [DD, hx]; rfl
  rw [hx] at D1
  generalize s.getD (i + 1) 0 = x1 at *
  clear hx hDc
  have hv : Lx.tokC 45 r = if (Ty.parN (45 :: r.takeWhile Ty.isD)).2 ≠ 0 then (Lx.tk0, 12) else (⟨2, 45 :: r.takeWhile Ty.isD, (Ty.parN (45 :: r.takeWhile Ty.isD)).1, 0⟩, 0) := by unfold Lx.tokC; rw [if_neg (by rw [hL]; decide), if_neg (by rw [hX]; decide), if_pos hDt]
  have W := fun w => digits_z s ((i : Int) + 1) (i + 1) (by omega) (by omega) (by omega) w
  rw [hr] at W
  have htk : (s.drop i).take (1 + (r.takeWhile Ty.isD).length) = 45 :: r.takeWhile Ty.isD := by rw [hd, Nat.add_comm, List.take_succ_cons, take_tw]
  have hle : i + (1 + (r.takeWhile Ty.isD).length) ≤ s.length := by
    have := (List.takeWhile_prefix Ty.isD (l := r)).length_le
    omega
  have hcut := fun w => run_T_cut s .i64 .i64 (i : Int) ((i : Int) + (1 + ((r.takeWhile Ty.isD).length : Int))) i (i + (1 + (r.takeWhile Ty.isD).length)) rfl (by omega) (by omega) hle (by omega) w
  rw [cut_text htk] at hcut
  have P := fun w => RParse_anyT 21 (45 :: r.takeWhile Ty.isD) w (by rw [List.length_cons]; omega)
  have hp := par21 (45 :: r.takeWhile Ty.isD)
  clear hX hDt hL htk
  clear hc hr hd hrl A2 X DD DT H2
  generalize Lx.tokC 45 r = res at *
  generalize (45 :: r.takeWhile Ty.isD : List UInt8) = txt at *
  generalize (r.takeWhile Ty.isD).length = m at *
  replace L := Lib.hid L; replace D := Lib.hid D; replace W := Lib.hid W; replace A1 := Lib.hid A1; replace D1 := Lib.hid D1
  have hp0 := hp.resolve_right fun h => hg h.1
  obtain ⟨_, p1⟩ := hp0
  rw [p1] at P
  rw [if_pos hg] at hv
  generalize (Ty.parN txt).2 = x at *
  have hx : (x != 0) = true := by simpa using hg
  have HV := Lib.hid hv
  clear hv hp hg p1
  replace P := Lib.hid P
  go_enter Tryz.func53, Tryz.ntmps53
  go_wp2_with fail
  refine (L.out _).mono ?_
  rintro e _ ⟨rfl, rfl⟩
  go_wp2_with fail
  refine (D.out _).mono ?_
  rintro e _ ⟨rfl, rfl⟩
  go_wp2_with fail
  refine (A1.out _).mono ?_
  rintro e _ ⟨rfl, rfl⟩
  go_wp2_with fail
  refine (D1.out _).mono ?_
  rintro e _ ⟨rfl, rfl⟩
  go_wp2_with fail
  refine (W.out _).mono ?_
  rintro e _ ⟨rfl, rfl⟩
  go_wp2_with fail
  refine (P.out _).mono ?_
  rintro e w1 ⟨A1, c1, rfl, o1, b1⟩
  have K1 := Blk.made b1
  have d1 := below_step (alloc_one _ _) b1 (Nat.le_refl _)
  have F1 := K1.four
  clear o1
  go_wp2_with fail
  obtain ⟨⟨r0, r1, r2, r3⟩, _⟩ := (K1.store4 (.int .i64 0) (.string ⟨#[]⟩) (.int .i64 0) (.int .i64 0)).four
  exact bodyPost_ret (v := .tuple #[tkV 0 [] 0 0, .int .i64 12]) (by simp [results, Tryz.results53, go_sem, r0, r1, r2, r3, tkV, show T [] = (⟨#[]⟩ : ByteArray) from rfl]) rfl (one_no HV.out (by decide) (below_set4 d1 (Nat.le_refl _) _ _ _ _ _ _ _ _))
end Go.Proofs.YtmolmpgampmolaaGreat
