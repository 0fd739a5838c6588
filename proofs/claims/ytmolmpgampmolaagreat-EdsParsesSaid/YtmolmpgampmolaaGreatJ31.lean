/-
  Texts joined: LexOne, LexRScan.
  Conditions: none.
-/
import Derived.Test.YtmolmpgampmolaaGreatJ06
import Derived.Test.YtmolmpgampmolaaGreatJ29
import Derived.Test.YtmolmpgampmolaaGreatJ30
/-
  Walk: the reference of package lex: one (all).
  Conditions: none.
-/
namespace Go.Proofs.YtmolmpgampmolaaGreat
set_option linter.unusedVariables false
set_option linter.unusedSimpArgs false
open Go.RowKit
set_option maxRecDepth 100000 in
set_option maxHeartbeats 4000000 in
theorem one_letter (s : List UInt8) (i : Nat) (c : UInt8) (r : List UInt8) (w : World) (hs : s.length ≤ 10000) (hi : i < s.length) (hd : s.drop i = c :: r) (hL : Lx.isL c = true) : Calls Tryz.prog 53 #[.string (T s), .int .i64 (i : Int)] w (OneP (Lx.tokC c r) i w) := by
  have hT := T_size s
  have hat := fun w => run_T_at s .i64 i i rfl hi w
  have hc : s.getD i 0 = c := by
    rw [drop_cons hi] at hd
    exact (List.cons.inj hd).1
  have hr : s.drop (i + 1) = r := by
    rw [drop_cons hi] at hd
    exact (List.cons.inj hd).2
  rw [hc] at hat
  have hrl : r.length + 1 + i = s.length := by rw [← hr, List.length_drop]; omega
  have b0 := alloc_one w (.cells tk0C 56)
  unfold tk0C at b0
  have L := fun w => ref_letter c w
  have D := fun w => ref_digit c w
  have X := tokX_at (c := c) hr
  have DD := tokD_at (c := c) hr
  have DT := dot_at hr
  have A1 := fun w => at_z s ((i : Int) + 1) (i + 1) (by omega) (by omega) (by omega) w
  have A2 := fun w => at_z s ((i : Int) + 2) (i + 2) (by omega) (by omega) (by omega) w
  have H2 := fun w => ref_hex (s.getD (i + 2) 0) w
  have D1 := fun w => ref_digit (s.getD (i + 1) 0) w
  have hv : Lx.tokC c r = (⟨1, c :: r.takeWhile Lx.inW, 0, 0⟩, 0) := by unfold Lx.tokC; rw [if_pos hL]
  rw [hL] at L
  have hw : (s.drop i).takeWhile Lx.inW = c :: r.takeWhile Lx.inW := by rw [hd, List.takeWhile_cons, if_pos (by unfold Lx.inW; rw [hL]; rfl)]
  have W := fun w => words_z s (i : Int) i rfl (by omega) (by omega) w
  rw [hw] at W
  have htk : (s.drop i).take (c :: r.takeWhile Lx.inW).length = c :: r.takeWhile Lx.inW := by rw [← hw]; exact take_tw _ _
  have hle : i + (c :: r.takeWhile Lx.inW).length ≤ s.length := by
    have := (List.takeWhile_prefix Lx.inW (l := r)).length_le
    simp only [List.length_cons]
    omega
  have hcut := fun w => run_T_cut s .i64 .i64 (i : Int) ((i : Int) + ((c :: r.takeWhile Lx.inW).length : Int)) i (i + (c :: r.takeWhile Lx.inW).length) rfl (by omega) (by omega) hle (by omega) w
  rw [cut_text htk] at hcut
  have HV := Lib.hid hv
  replace L := Lib.hid L; replace W := Lib.hid W
  clear hv hw htk hL
  clear hc hr hd hrl D A1 A2 X DD DT H2 D1
  generalize Lx.tokC c r = res at *
  generalize (c :: r.takeWhile Lx.inW : List UInt8) = txt at *
  go_enter Tryz.func53, Tryz.ntmps53
  go_wp2_with fail
  refine (L.out _).mono ?_
  rintro e _ ⟨rfl, rfl⟩
  go_wp2_with fail
  refine (W.out _).mono ?_
  rintro e _ ⟨rfl, rfl⟩
  go_wp2_with fail
  exact bodyPost_ret (v := .tuple #[tkV 1 txt 0 (i : Int), .int .i64 0]) (by simp [results, Tryz.results53, go_sem, tkV]) rfl (one_mk HV.out (alloc_one _ _))
set_option maxRecDepth 100000 in
set_option maxHeartbeats 4000000 in
theorem one_quo (s : List UInt8) (i : Nat) (c : UInt8) (r : List UInt8) (w : World) (hs : s.length ≤ 10000) (hi : i < s.length) (hd : s.drop i = c :: r) (h34 : c = 34) (k : Nat) (hg : Lx.qlen false r = some k) : Calls Tryz.prog 53 #[.string (T s), .int .i64 (i : Int)] w (OneP (Lx.tokC c r) i w) := by
  have hT := T_size s
  have hat := fun w => run_T_at s .i64 i i rfl hi w
  have hc : s.getD i 0 = c := by
    rw [drop_cons hi] at hd
    exact (List.cons.inj hd).1
  have hr : s.drop (i + 1) = r := by
    rw [drop_cons hi] at hd
    exact (List.cons.inj hd).2
  rw [hc] at hat
  have hrl : r.length + 1 + i = s.length := by rw [← hr, List.length_drop]; omega
  have b0 := alloc_one w (.cells tk0C 56)
  unfold tk0C at b0
  have L := fun w => ref_letter c w
  have D := fun w => ref_digit c w
  have X := tokX_at (c := c) hr
  have DD := tokD_at (c := c) hr
  have DT := dot_at hr
  have A1 := fun w => at_z s ((i : Int) + 1) (i + 1) (by omega) (by omega) (by omega) w
  have A2 := fun w => at_z s ((i : Int) + 2) (i + 2) (by omega) (by omega) (by omega) w
  have H2 := fun w => ref_hex (s.getD (i + 2) 0) w
  have D1 := fun w => ref_digit (s.getD (i + 1) 0) w
  subst h34
  have hL : Lx.isL 34 = false := by decide
  have hDc : Ty.isD 34 = false := by decide
  rw [hL] at L; rw [hDc] at D
  have hX : Lx.tokX 34 r = false := by rw [X]; rfl
  have hDt : Lx.tokD 34 r = false := by rw [DD]; rfl
  have hv : Lx.tokC 34 r = (match Lx.qlen false r with | none => (Lx.tk0, 12) | some k => (⟨4, 34 :: r.take k, 0, 0⟩, 0)) := by unfold Lx.tokC; rw [if_neg (by rw [hL]; decide), if_neg (by rw [hX]; decide), if_neg (by rw [hDt]; decide), if_pos rfl]; cases Lx.qlen false r <;> rfl
  have Q := fun w => rquoted_any s i w (by omega) hi
  unfold quoN at Q
  rw [hr] at Q
  clear hX hDt hDc hL
  rw [hg] at Q hv
  dsimp only at Q hv
  have htk : (s.drop i).take (k + 1) = 34 :: r.take k := by rw [hd, List.take_succ_cons]
  have hk := Lx.qlen_le _ _ hg
  have hle : i + (k + 1) ≤ s.length := by omega
  have hcut := fun w => run_T_cut s .i64 .i64 (i : Int) ((i : Int) + ((k : Int) + 1)) i (i + (k + 1)) rfl (by omega) (by omega) hle (by omega) w
  rw [cut_text htk] at hcut
  have HV := Lib.hid hv
  clear hv htk hg
  clear hc hr hd hrl A1 A2 X DD DT H2 D1
  generalize Lx.tokC 34 r = res at *
  generalize (34 :: r.take k : List UInt8) = txt at *
  replace L := Lib.hid L; replace D := Lib.hid D; replace Q := Lib.hid Q
  go_enter Tryz.func53, Tryz.ntmps53
  go_wp2_with fail
  refine (L.out _).mono ?_
  rintro e _ ⟨rfl, rfl⟩
  go_wp2_with fail
  refine (D.out _).mono ?_
  rintro e _ ⟨rfl, rfl⟩
  go_wp2_with fail
  refine (Q.out _).mono ?_
  rintro e _ ⟨rfl, rfl⟩
  go_wp2_with fail
  exact bodyPost_ret (v := .tuple #[tkV 4 txt 0 (i : Int), .int .i64 0]) (by simp [results, Tryz.results53, go_sem, tkV]) rfl (one_mk HV.out (alloc_one _ _))
set_option maxRecDepth 100000 in
set_option maxHeartbeats 4000000 in
theorem one_quo_no (s : List UInt8) (i : Nat) (c : UInt8) (r : List UInt8) (w : World) (hs : s.length ≤ 10000) (hi : i < s.length) (hd : s.drop i = c :: r) (h34 : c = 34) (hg : Lx.qlen false r = none) : Calls Tryz.prog 53 #[.string (T s), .int .i64 (i : Int)] w (OneP (Lx.tokC c r) i w) := by
  have hT := T_size s
  have hat := fun w => run_T_at s .i64 i i rfl hi w
  have hc : s.getD i 0 = c := by
    rw [drop_cons hi] at hd
    exact (List.cons.inj hd).1
  have hr : s.drop (i + 1) = r := by
    rw [drop_cons hi] at hd
    exact (List.cons.inj hd).2
  rw [hc] at hat
  have hrl : r.length + 1 + i = s.length := by rw [← hr, List.length_drop]; omega
  have b0 := alloc_one w (.cells tk0C 56)
  unfold tk0C at b0
  have L := fun w => ref_letter c w
  have D := fun w => ref_digit c w
  have X := tokX_at (c := c) hr
  have DD := tokD_at (c := c) hr
  have DT := dot_at hr
  have A1 := fun w => at_z s ((i : Int) + 1) (i + 1) (by omega) (by omega) (by omega) w
  have A2 := fun w => at_z s ((i : Int) + 2) (i + 2) (by omega) (by omega) (by omega) w
  have H2 := fun w => ref_hex (s.getD (i + 2) 0) w
  have D1 := fun w => ref_digit (s.getD (i + 1) 0) w
  subst h34
  have hL : Lx.isL 34 = false := by decide
  have hDc : Ty.isD 34 = false := by decide
  rw [hL] at L; rw [hDc] at D
  have hX : Lx.tokX 34 r = false := by rw [X]; rfl
  have hDt : Lx.tokD 34 r = false := by rw [DD]; rfl
  have hv : Lx.tokC 34 r = (match Lx.qlen false r with | none => (Lx.tk0, 12) | some k => (⟨4, 34 :: r.take k, 0, 0⟩, 0)) := by unfold Lx.tokC; rw [if_neg (by rw [hL]; decide), if_neg (by rw [hX]; decide), if_neg (by rw [hDt]; decide), if_pos rfl]; cases Lx.qlen false r <;> rfl
  have Q := fun w => rquoted_any s i w (by omega) hi
  unfold quoN at Q
  rw [hr] at Q
  clear hX hDt hDc hL
  rw [hg] at Q hv
  dsimp only at Q hv
  have HV := Lib.hid hv
  clear hv hg
  clear hc hr hd hrl A1 A2 X DD DT H2 D1
  generalize Lx.tokC 34 r = res at *
  replace L := Lib.hid L; replace D := Lib.hid D; replace Q := Lib.hid Q
  go_enter Tryz.func53, Tryz.ntmps53
  go_wp2_with fail
  refine (L.out _).mono ?_
  rintro e _ ⟨rfl, rfl⟩
  go_wp2_with fail
  refine (D.out _).mono ?_
  rintro e _ ⟨rfl, rfl⟩
  go_wp2_with fail
  refine (Q.out _).mono ?_
  rintro e _ ⟨rfl, rfl⟩
  go_wp2_with fail
  exact bodyPost_ret (v := .tuple #[tkV 0 [] 0 0, .int .i64 12]) (by simp [results, Tryz.results53, go_sem, tkV, show T [] = (⟨#[]⟩ : ByteArray) from rfl]) rfl (one_no HV.out (by decide) (alloc_one _ _))
set_option maxRecDepth 100000 in
set_option maxHeartbeats 4000000 in
theorem one_sharp (s : List UInt8) (i : Nat) (c : UInt8) (r : List UInt8) (w : World) (hs : s.length ≤ 10000) (hi : i < s.length) (hd : s.drop i = c :: r) (h35 : c = 35) : Calls Tryz.prog 53 #[.string (T s), .int .i64 (i : Int)] w (OneP (Lx.tokC c r) i w) := by
  have hT := T_size s
  have hat := fun w => run_T_at s .i64 i i rfl hi w
  have hc : s.getD i 0 = c := by
    rw [drop_cons hi] at hd
    exact (List.cons.inj hd).1
  have hr : s.drop (i + 1) = r := by
    rw [drop_cons hi] at hd
    exact (List.cons.inj hd).2
  rw [hc] at hat
  have hrl : r.length + 1 + i = s.length := by rw [← hr, List.length_drop]; omega
  have b0 := alloc_one w (.cells tk0C 56)
  unfold tk0C at b0
  have L := fun w => ref_letter c w
  have D := fun w => ref_digit c w
  have X := tokX_at (c := c) hr
  have DD := tokD_at (c := c) hr
  have DT := dot_at hr
  have A1 := fun w => at_z s ((i : Int) + 1) (i + 1) (by omega) (by omega) (by omega) w
  have A2 := fun w => at_z s ((i : Int) + 2) (i + 2) (by omega) (by omega) (by omega) w
  have H2 := fun w => ref_hex (s.getD (i + 2) 0) w
  have D1 := fun w => ref_digit (s.getD (i + 1) 0) w
  subst h35
  have hL : Lx.isL 35 = false := by decide
  have hDc : Ty.isD 35 = false := by decide
  rw [hL] at L; rw [hDc] at D
  have hX : Lx.tokX 35 r = false := by rw [X]; rfl
  have hDt : Lx.tokD 35 r = false := by rw [DD]; rfl
  have hv : Lx.tokC 35 r = (⟨4, 35 :: r.takeWhile Lx.isH, 0, 0⟩, 0) := by unfold Lx.tokC; rw [if_neg (by rw [hL]; decide), if_neg (by rw [hX]; decide), if_neg (by rw [hDt]; decide), if_neg (by decide), if_pos rfl]
  have W := fun w => hexs_z s ((i : Int) + 1) (i + 1) (by omega) (by omega) (by omega) w
  rw [hr] at W
  have htk : (s.drop i).take (1 + (r.takeWhile Lx.isH).length) = 35 :: r.takeWhile Lx.isH := by rw [hd, Nat.add_comm, List.take_succ_cons, take_tw]
  have hle : i + (1 + (r.takeWhile Lx.isH).length) ≤ s.length := by
    have := (List.takeWhile_prefix Lx.isH (l := r)).length_le
    omega
  have hcut := fun w => run_T_cut s .i64 .i64 (i : Int) ((i : Int) + 1 + ((r.takeWhile Lx.isH).length : Int)) i (i + (1 + (r.takeWhile Lx.isH).length)) rfl (by omega) (by omega) hle (by omega) w
  rw [cut_text htk] at hcut
  have HV := Lib.hid hv
  clear hv htk hX hDt hDc hL
  clear hc hr hd hrl A1 A2 X DD DT H2 D1
  generalize Lx.tokC 35 r = res at *
  generalize (35 :: r.takeWhile Lx.isH : List UInt8) = txt at *
  generalize (r.takeWhile Lx.isH).length = m at *
  replace L := Lib.hid L; replace D := Lib.hid D; replace W := Lib.hid W
  go_enter Tryz.func53, Tryz.ntmps53
  go_wp2_with fail
  refine (L.out _).mono ?_
  rintro e _ ⟨rfl, rfl⟩
  go_wp2_with fail
  refine (D.out _).mono ?_
  rintro e _ ⟨rfl, rfl⟩
  go_wp2_with fail
  refine (W.out _).mono ?_
  rintro e _ ⟨rfl, rfl⟩
  go_wp2_with fail
  exact bodyPost_ret (v := .tuple #[tkV 4 txt 0 (i : Int), .int .i64 0]) (by simp [results, Tryz.results53, go_sem, tkV]) rfl (one_mk HV.out (alloc_one _ _))
set_option maxRecDepth 100000 in
set_option maxHeartbeats 4000000 in
theorem one_dots (s : List UInt8) (i : Nat) (c : UInt8) (r : List UInt8) (w : World) (hs : s.length ≤ 10000) (hi : i < s.length) (hd : s.drop i = c :: r) (h46 : c = 46) (hx : s.getD (i + 1) 0 = 46) : Calls Tryz.prog 53 #[.string (T s), .int .i64 (i : Int)] w (OneP (Lx.tokC c r) i w) := by
  have hT := T_size s
  have hat := fun w => run_T_at s .i64 i i rfl hi w
  have hc : s.getD i 0 = c := by
    rw [drop_cons hi] at hd
    exact (List.cons.inj hd).1
  have hr : s.drop (i + 1) = r := by
    rw [drop_cons hi] at hd
    exact (List.cons.inj hd).2
  rw [hc] at hat
  have hrl : r.length + 1 + i = s.length := by rw [← hr, List.length_drop]; omega
  have b0 := alloc_one w (.cells tk0C 56)
  unfold tk0C at b0
  have L := fun w => ref_letter c w
  have D := fun w => ref_digit c w
  have X := tokX_at (c := c) hr
  have DD := tokD_at (c := c) hr
  have DT := dot_at hr
  have A1 := fun w => at_z s ((i : Int) + 1) (i + 1) (by omega) (by omega) (by omega) w
  have A2 := fun w => at_z s ((i : Int) + 2) (i + 2) (by omega) (by omega) (by omega) w
  have H2 := fun w => ref_hex (s.getD (i + 2) 0) w
  have D1 := fun w => ref_digit (s.getD (i + 1) 0) w
  subst h46
  have hL : Lx.isL 46 = false := by decide
  have hDc : Ty.isD 46 = false := by decide
  rw [hL] at L; rw [hDc] at D
  have hX : Lx.tokX 46 r = false := by rw [X]; rfl
  have hDt : Lx.tokD 46 r = false := by rw [DD]; rfl
  have hv : Lx.tokC 46 r = (⟨5, [46, 46], 0, 0⟩, 0) := by unfold Lx.tokC; rw [if_neg (by rw [hL]; decide), if_neg (by rw [hX]; decide), if_neg (by rw [hDt]; decide), if_neg (by decide), if_neg (by decide), if_neg (by decide), if_pos ⟨rfl, by rw [DT, hx]; rfl⟩]
  rw [hx] at A1
  have HV := Lib.hid hv
  clear hv hX hDt hDc hL hx
  clear hc hr hd hrl A2 X DD DT H2 D1
  generalize Lx.tokC 46 r = res at *
  replace L := Lib.hid L; replace D := Lib.hid D; replace A1 := Lib.hid A1
  go_enter Tryz.func53, Tryz.ntmps53
  go_wp2_with fail
  refine (L.out _).mono ?_
  rintro e _ ⟨rfl, rfl⟩
  go_wp2_with fail
  refine (D.out _).mono ?_
  rintro e _ ⟨rfl, rfl⟩
  go_wp2_with fail
  refine (A1.out _).mono ?_
  rintro e _ ⟨rfl, rfl⟩
  go_wp2_with fail
  exact bodyPost_ret (v := .tuple #[tkV 5 [46, 46] 0 (i : Int), .int .i64 0]) (by simp [results, Tryz.results53, go_sem, tkV, show T [46, 46] = (⟨#[46, 46]⟩ : ByteArray) from rfl]) rfl (one_mk HV.out (alloc_one _ _))
set_option maxRecDepth 100000 in
set_option maxHeartbeats 4000000 in
theorem one_dot_no (s : List UInt8) (i : Nat) (c : UInt8) (r : List UInt8) (w : World) (hs : s.length ≤ 10000) (hi : i < s.length) (hd : s.drop i = c :: r) (h46 : c = 46) (hx : s.getD (i + 1) 0 ≠ 46) : Calls Tryz.prog 53 #[.string (T s), .int .i64 (i : Int)] w (OneP (Lx.tokC c r) i w) := by
  have hT := T_size s
  have hat := fun w => run_T_at s .i64 i i rfl hi w
  have hc : s.getD i 0 = c := by
    rw [drop_cons hi] at hd
    exact (List.cons.inj hd).1
  have hr : s.drop (i + 1) = r := by
    rw [drop_cons hi] at hd
    exact (List.cons.inj hd).2
  rw [hc] at hat
  have hrl : r.length + 1 + i = s.length := by rw [← hr, List.length_drop]; omega
  have b0 := alloc_one w (.cells tk0C 56)
  unfold tk0C at b0
  have L := fun w => ref_letter c w
  have D := fun w => ref_digit c w
  have X := tokX_at (c := c) hr
  have DD := tokD_at (c := c) hr
  have DT := dot_at hr
  have A1 := fun w => at_z s ((i : Int) + 1) (i + 1) (by omega) (by omega) (by omega) w
  have A2 := fun w => at_z s ((i : Int) + 2) (i + 2) (by omega) (by omega) (by omega) w
  have H2 := fun w => ref_hex (s.getD (i + 2) 0) w
  have D1 := fun w => ref_digit (s.getD (i + 1) 0) w
  subst h46
  have hL : Lx.isL 46 = false := by decide
  have hDc : Ty.isD 46 = false := by decide
  rw [hL] at L; rw [hDc] at D
  have hX : Lx.tokX 46 r = false := by rw [X]; rfl
  have hDt : Lx.tokD 46 r = false := by rw [DD]; rfl
  have hv : Lx.tokC 46 r = (Lx.tk0, 11) := by unfold Lx.tokC; rw [if_neg (by rw [hL]; decide), if_neg (by rw [hX]; decide), if_neg (by rw [hDt]; decide), if_neg (by decide), if_neg (by decide), if_neg (by decide), if_neg (by rw [DT, beq_false_of_ne hx]; decide)]
  have e46 := byte_ne (k := 46) hx rfl
  generalize s.getD (i + 1) 0 = x1 at *
  have HV := Lib.hid hv
  clear hv hX hDt hDc hL hx
  clear hc hr hd hrl A2 X DD DT H2 D1
  generalize Lx.tokC 46 r = res at *
  replace L := Lib.hid L; replace D := Lib.hid D; replace A1 := Lib.hid A1
  go_enter Tryz.func53, Tryz.ntmps53
  go_wp2_with fail
  refine (L.out _).mono ?_
  rintro e _ ⟨rfl, rfl⟩
  go_wp2_with fail
  refine (D.out _).mono ?_
  rintro e _ ⟨rfl, rfl⟩
  go_wp2_with fail
  refine (A1.out _).mono ?_
  rintro e _ ⟨rfl, rfl⟩
  go_wp2_with fail
  exact bodyPost_ret (v := .tuple #[tkV 0 [] 0 0, .int .i64 11]) (by simp [results, Tryz.results53, go_sem, tkV, show T [] = (⟨#[]⟩ : ByteArray) from rfl]) rfl (one_no HV.out (by decide) (alloc_one _ _))
set_option maxRecDepth 100000 in
set_option maxHeartbeats 4000000 in
theorem one_minus_no (s : List UInt8) (i : Nat) (c : UInt8) (r : List UInt8) (w : World) (hs : s.length ≤ 10000) (hi : i < s.length) (hd : s.drop i = c :: r) (h45 : c = 45) (hx : Ty.isD (s.getD (i + 1) 0) = false) : Calls Tryz.prog 53 #[.string (T s), .int .i64 (i : Int)] w (OneP (Lx.tokC c r) i w) := by
  have hT := T_size s
  have hat := fun w => run_T_at s .i64 i i rfl hi w
  have hc : s.getD i 0 = c := by
    rw [drop_cons hi] at hd
    exact (List.cons.inj hd).1
  have hr : s.drop (i + 1) = r := by
    rw [drop_cons hi] at hd
    exact (List.cons.inj hd).2
  rw [hc] at hat
  have hrl : r.length + 1 + i = s.length := by rw [← hr, List.length_drop]; omega
  have b0 := alloc_one w (.cells tk0C 56)
  unfold tk0C at b0
  have L := fun w => ref_letter c w
  have D := fun w => ref_digit c w
  have X := tokX_at (c := c) hr
  have DD := tokD_at (c := c) hr
  have DT := dot_at hr
  have A1 := fun w => at_z s ((i : Int) + 1) (i + 1) (by omega) (by omega) (by omega) w
  have A2 := fun w => at_z s ((i : Int) + 2) (i + 2) (by omega) (by omega) (by omega) w
  have H2 := fun w => ref_hex (s.getD (i + 2) 0) w
  have D1 := fun w => ref_digit (s.getD (i + 1) 0) w
  subst h45
  have hL : Lx.isL 45 = false := by decide
  have hDc : Ty.isD 45 = false := by decide
  rw [hL] at L; rw [hDc] at D
  have hX : Lx.tokX 45 r = false := by rw [X]; rfl
  have hDt : Lx.tokD 45 r = false := by rw [DD]; rw [hx]; rfl
  have hv : Lx.tokC 45 r = (Lx.tk0, 11) := by unfold Lx.tokC; rw [if_neg (by rw [hL]; decide), if_neg (by rw [hX]; decide), if_neg (by rw [hDt]; decide), if_neg (by decide), if_neg (by decide), if_neg (by decide), if_neg (by rintro ⟨h, _⟩; exact absurd h (by decide))]
  rw [hx] at D1
  generalize s.getD (i + 1) 0 = x1 at *
  have HV := Lib.hid hv
  clear hv hX hDt hDc hL hx
  clear hc hr hd hrl A2 X DD DT H2
  generalize Lx.tokC 45 r = res at *
  replace L := Lib.hid L; replace D := Lib.hid D; replace A1 := Lib.hid A1; replace D1 := Lib.hid D1
  go_enter Tryz.func53, Tryz.ntmps53
  go_wp2_with fail
  refine (L.out _).mono ?_
  rintro e _ ⟨rfl, rfl⟩
  go_wp2_with fail
  refine (D.out _).mono ?_
  rintro e _ ⟨rfl, rfl⟩
  go_wp2_with fail
  refine (A1.out _).mono ?_
  rintro e _ ⟨rfl, rfl⟩
  go_wp2_with fail
  refine (D1.out _).mono ?_
  rintro e _ ⟨rfl, rfl⟩
  go_wp2_with fail
  exact bodyPost_ret (v := .tuple #[tkV 0 [] 0 0, .int .i64 11]) (by simp [results, Tryz.results53, go_sem, tkV, show T [] = (⟨#[]⟩ : ByteArray) from rfl]) rfl (one_no HV.out (by decide) (alloc_one _ _))
set_option maxRecDepth 100000 in
set_option maxHeartbeats 4000000 in
theorem one_mark58 (s : List UInt8) (i : Nat) (c : UInt8) (r : List UInt8) (w : World) (hs : s.length ≤ 10000) (hi : i < s.length) (hd : s.drop i = c :: r) (hm : c = 58) : Calls Tryz.prog 53 #[.string (T s), .int .i64 (i : Int)] w (OneP (Lx.tokC c r) i w) := by
  have hT := T_size s
  have hat := fun w => run_T_at s .i64 i i rfl hi w
  have hc : s.getD i 0 = c := by
    rw [drop_cons hi] at hd
    exact (List.cons.inj hd).1
  have hr : s.drop (i + 1) = r := by
    rw [drop_cons hi] at hd
    exact (List.cons.inj hd).2
  rw [hc] at hat
  have hrl : r.length + 1 + i = s.length := by rw [← hr, List.length_drop]; omega
  have b0 := alloc_one w (.cells tk0C 56)
  unfold tk0C at b0
  have L := fun w => ref_letter c w
  have D := fun w => ref_digit c w
  have X := tokX_at (c := c) hr
  have DD := tokD_at (c := c) hr
  have DT := dot_at hr
  have A1 := fun w => at_z s ((i : Int) + 1) (i + 1) (by omega) (by omega) (by omega) w
  have A2 := fun w => at_z s ((i : Int) + 2) (i + 2) (by omega) (by omega) (by omega) w
  have H2 := fun w => ref_hex (s.getD (i + 2) 0) w
  have D1 := fun w => ref_digit (s.getD (i + 1) 0) w
  subst hm
  have hL : Lx.isL 58 = false := by decide
  have hDc : Ty.isD 58 = false := by decide
  rw [hL] at L; rw [hDc] at D
  have hX : Lx.tokX 58 r = false := by rw [X]; rfl
  have hDt : Lx.tokD 58 r = false := by rw [DD]; rfl
  have hv : Lx.tokC 58 r = (⟨5, [58], 0, 0⟩, 0) := by unfold Lx.tokC; rw [if_neg (by rw [hL]; decide), if_neg (by rw [hX]; decide), if_neg (by rw [hDt]; decide), if_neg (by decide), if_neg (by decide), if_pos (by decide)]
  have htk : (s.drop i).take 1 = [58] := by rw [hd]; rfl
  have hcut := fun w => run_T_cut s .i64 .i64 (i : Int) ((i : Int) + 1) i (i + 1) rfl (by omega) (by omega) (by omega) (by omega) w
  rw [cut_text htk] at hcut
  have HV := Lib.hid hv
  clear hv htk hX hDt hDc hL
  clear hc hr hd hrl A1 A2 X DD DT H2 D1
  generalize Lx.tokC 58 r = res at *
  generalize ([58] : List UInt8) = txt at *
  replace L := Lib.hid L; replace D := Lib.hid D
  go_enter Tryz.func53, Tryz.ntmps53
  go_wp2_with fail
  refine (L.out _).mono ?_
  rintro e _ ⟨rfl, rfl⟩
  go_wp2_with fail
  refine (D.out _).mono ?_
  rintro e _ ⟨rfl, rfl⟩
  go_wp2_with fail
  exact bodyPost_ret (v := .tuple #[tkV 5 txt 0 (i : Int), .int .i64 0]) (by simp [results, Tryz.results53, go_sem, tkV]) rfl (one_mk HV.out (alloc_one _ _))
set_option maxRecDepth 100000 in
set_option maxHeartbeats 4000000 in
theorem one_mark91 (s : List UInt8) (i : Nat) (c : UInt8) (r : List UInt8) (w : World) (hs : s.length ≤ 10000) (hi : i < s.length) (hd : s.drop i = c :: r) (hm : c = 91) : Calls Tryz.prog 53 #[.string (T s), .int .i64 (i : Int)] w (OneP (Lx.tokC c r) i w) := by
  have hT := T_size s
  have hat := fun w => run_T_at s .i64 i i rfl hi w
  have hc : s.getD i 0 = c := by
    rw [drop_cons hi] at hd
    exact (List.cons.inj hd).1
  have hr : s.drop (i + 1) = r := by
    rw [drop_cons hi] at hd
    exact (List.cons.inj hd).2
  rw [hc] at hat
  have hrl : r.length + 1 + i = s.length := by rw [← hr, List.length_drop]; omega
  have b0 := alloc_one w (.cells tk0C 56)
  unfold tk0C at b0
  have L := fun w => ref_letter c w
  have D := fun w => ref_digit c w
  have X := tokX_at (c := c) hr
  have DD := tokD_at (c := c) hr
  have DT := dot_at hr
  have A1 := fun w => at_z s ((i : Int) + 1) (i + 1) (by omega) (by omega) (by omega) w
  have A2 := fun w => at_z s ((i : Int) + 2) (i + 2) (by omega) (by omega) (by omega) w
  have H2 := fun w => ref_hex (s.getD (i + 2) 0) w
  have D1 := fun w => ref_digit (s.getD (i + 1) 0) w
  subst hm
  have hL : Lx.isL 91 = false := by decide
  have hDc : Ty.isD 91 = false := by decide
  rw [hL] at L; rw [hDc] at D
  have hX : Lx.tokX 91 r = false := by rw [X]; rfl
  have hDt : Lx.tokD 91 r = false := by rw [DD]; rfl
  have hv : Lx.tokC 91 r = (⟨5, [91], 0, 0⟩, 0) := by unfold Lx.tokC; rw [if_neg (by rw [hL]; decide), if_neg (by rw [hX]; decide), if_neg (by rw [hDt]; decide), if_neg (by decide), if_neg (by decide), if_pos (by decide)]
  have htk : (s.drop i).take 1 = [91] := by rw [hd]; rfl
  have hcut := fun w => run_T_cut s .i64 .i64 (i : Int) ((i : Int) + 1) i (i + 1) rfl (by omega) (by omega) (by omega) (by omega) w
  rw [cut_text htk] at hcut
  have HV := Lib.hid hv
  clear hv htk hX hDt hDc hL
  clear hc hr hd hrl A1 A2 X DD DT H2 D1
  generalize Lx.tokC 91 r = res at *
  generalize ([91] : List UInt8) = txt at *
  replace L := Lib.hid L; replace D := Lib.hid D
  go_enter Tryz.func53, Tryz.ntmps53
  go_wp2_with fail
  refine (L.out _).mono ?_
  rintro e _ ⟨rfl, rfl⟩
  go_wp2_with fail
  refine (D.out _).mono ?_
  rintro e _ ⟨rfl, rfl⟩
  go_wp2_with fail
  exact bodyPost_ret (v := .tuple #[tkV 5 txt 0 (i : Int), .int .i64 0]) (by simp [results, Tryz.results53, go_sem, tkV]) rfl (one_mk HV.out (alloc_one _ _))
set_option maxRecDepth 100000 in
set_option maxHeartbeats 4000000 in
theorem one_mark93 (s : List UInt8) (i : Nat) (c : UInt8) (r : List UInt8) (w : World) (hs : s.length ≤ 10000) (hi : i < s.length) (hd : s.drop i = c :: r) (hm : c = 93) : Calls Tryz.prog 53 #[.string (T s), .int .i64 (i : Int)] w (OneP (Lx.tokC c r) i w) := by
  have hT := T_size s
  have hat := fun w => run_T_at s .i64 i i rfl hi w
  have hc : s.getD i 0 = c := by
    rw [drop_cons hi] at hd
    exact (List.cons.inj hd).1
  have hr : s.drop (i + 1) = r := by
    rw [drop_cons hi] at hd
    exact (List.cons.inj hd).2
  rw [hc] at hat
  have hrl : r.length + 1 + i = s.length := by rw [← hr, List.length_drop]; omega
  have b0 := alloc_one w (.cells tk0C 56)
  unfold tk0C at b0
  have L := fun w => ref_letter c w
  have D := fun w => ref_digit c w
  have X := tokX_at (c := c) hr
  have DD := tokD_at (c := c) hr
  have DT := dot_at hr
  have A1 := fun w => at_z s ((i : Int) + 1) (i + 1) (by omega) (by omega) (by omega) w
  have A2 := fun w => at_z s ((i : Int) + 2) (i + 2) (by omega) (by omega) (by omega) w
  have H2 := fun w => ref_hex (s.getD (i + 2) 0) w
  have D1 := fun w => ref_digit (s.getD (i + 1) 0) w
  subst hm
  have hL : Lx.isL 93 = false := by decide
  have hDc : Ty.isD 93 = false := by decide
  rw [hL] at L; rw [hDc] at D
  have hX : Lx.tokX 93 r = false := by rw [X]; rfl
  have hDt : Lx.tokD 93 r = false := by rw [DD]; rfl
  have hv : Lx.tokC 93 r = (⟨5, [93], 0, 0⟩, 0) := by unfold Lx.tokC; rw [if_neg (by rw [hL]; decide), if_neg (by rw [hX]; decide), if_neg (by rw [hDt]; decide), if_neg (by decide), if_neg (by decide), if_pos (by decide)]
  have htk : (s.drop i).take 1 = [93] := by rw [hd]; rfl
  have hcut := fun w => run_T_cut s .i64 .i64 (i : Int) ((i : Int) + 1) i (i + 1) rfl (by omega) (by omega) (by omega) (by omega) w
  rw [cut_text htk] at hcut
  have HV := Lib.hid hv
  clear hv htk hX hDt hDc hL
  clear hc hr hd hrl A1 A2 X DD DT H2 D1
  generalize Lx.tokC 93 r = res at *
  generalize ([93] : List UInt8) = txt at *
  replace L := Lib.hid L; replace D := Lib.hid D
  go_enter Tryz.func53, Tryz.ntmps53
  go_wp2_with fail
  refine (L.out _).mono ?_
  rintro e _ ⟨rfl, rfl⟩
  go_wp2_with fail
  refine (D.out _).mono ?_
  rintro e _ ⟨rfl, rfl⟩
  go_wp2_with fail
  exact bodyPost_ret (v := .tuple #[tkV 5 txt 0 (i : Int), .int .i64 0]) (by simp [results, Tryz.results53, go_sem, tkV]) rfl (one_mk HV.out (alloc_one _ _))
set_option maxRecDepth 100000 in
set_option maxHeartbeats 4000000 in
theorem one_mark61 (s : List UInt8) (i : Nat) (c : UInt8) (r : List UInt8) (w : World) (hs : s.length ≤ 10000) (hi : i < s.length) (hd : s.drop i = c :: r) (hm : c = 61) : Calls Tryz.prog 53 #[.string (T s), .int .i64 (i : Int)] w (OneP (Lx.tokC c r) i w) := by
  have hT := T_size s
  have hat := fun w => run_T_at s .i64 i i rfl hi w
  have hc : s.getD i 0 = c := by
    rw [drop_cons hi] at hd
    exact (List.cons.inj hd).1
  have hr : s.drop (i + 1) = r := by
    rw [drop_cons hi] at hd
    exact (List.cons.inj hd).2
  rw [hc] at hat
  have hrl : r.length + 1 + i = s.length := by rw [← hr, List.length_drop]; omega
  have b0 := alloc_one w (.cells tk0C 56)
  unfold tk0C at b0
  have L := fun w => ref_letter c w
  have D := fun w => ref_digit c w
  have X := tokX_at (c := c) hr
  have DD := tokD_at (c := c) hr
  have DT := dot_at hr
  have A1 := fun w => at_z s ((i : Int) + 1) (i + 1) (by omega) (by omega) (by omega) w
  have A2 := fun w => at_z s ((i : Int) + 2) (i + 2) (by omega) (by omega) (by omega) w
  have H2 := fun w => ref_hex (s.getD (i + 2) 0) w
  have D1 := fun w => ref_digit (s.getD (i + 1) 0) w
  subst hm
  have hL : Lx.isL 61 = false := by decide
  have hDc : Ty.isD 61 = false := by decide
  rw [hL] at L; rw [hDc] at D
  have hX : Lx.tokX 61 r = false := by rw [X]; rfl
  have hDt : Lx.tokD 61 r = false := by rw [DD]; rfl
  have hv : Lx.tokC 61 r = (⟨5, [61], 0, 0⟩, 0) := by unfold Lx.tokC; rw [if_neg (by rw [hL]; decide), if_neg (by rw [hX]; decide), if_neg (by rw [hDt]; decide), if_neg (by decide), if_neg (by decide), if_pos (by decide)]
  have htk : (s.drop i).take 1 = [61] := by rw [hd]; rfl
  have hcut := fun w => run_T_cut s .i64 .i64 (i : Int) ((i : Int) + 1) i (i + 1) rfl (by omega) (by omega) (by omega) (by omega) w
  rw [cut_text htk] at hcut
  have HV := Lib.hid hv
  clear hv htk hX hDt hDc hL
  clear hc hr hd hrl A1 A2 X DD DT H2 D1
  generalize Lx.tokC 61 r = res at *
  generalize ([61] : List UInt8) = txt at *
  replace L := Lib.hid L; replace D := Lib.hid D
  go_enter Tryz.func53, Tryz.ntmps53
  go_wp2_with fail
  refine (L.out _).mono ?_
  rintro e _ ⟨rfl, rfl⟩
  go_wp2_with fail
  refine (D.out _).mono ?_
  rintro e _ ⟨rfl, rfl⟩
  go_wp2_with fail
  exact bodyPost_ret (v := .tuple #[tkV 5 txt 0 (i : Int), .int .i64 0]) (by simp [results, Tryz.results53, go_sem, tkV]) rfl (one_mk HV.out (alloc_one _ _))
set_option maxRecDepth 100000 in
set_option maxHeartbeats 4000000 in
theorem one_mark59 (s : List UInt8) (i : Nat) (c : UInt8) (r : List UInt8) (w : World) (hs : s.length ≤ 10000) (hi : i < s.length) (hd : s.drop i = c :: r) (hm : c = 59) : Calls Tryz.prog 53 #[.string (T s), .int .i64 (i : Int)] w (OneP (Lx.tokC c r) i w) := by
  have hT := T_size s
  have hat := fun w => run_T_at s .i64 i i rfl hi w
  have hc : s.getD i 0 = c := by
    rw [drop_cons hi] at hd
    exact (List.cons.inj hd).1
  have hr : s.drop (i + 1) = r := by
    rw [drop_cons hi] at hd
    exact (List.cons.inj hd).2
  rw [hc] at hat
  have hrl : r.length + 1 + i = s.length := by rw [← hr, List.length_drop]; omega
  have b0 := alloc_one w (.cells tk0C 56)
  unfold tk0C at b0
  have L := fun w => ref_letter c w
  have D := fun w => ref_digit c w
  have X := tokX_at (c := c) hr
  have DD := tokD_at (c := c) hr
  have DT := dot_at hr
  have A1 := fun w => at_z s ((i : Int) + 1) (i + 1) (by omega) (by omega) (by omega) w
  have A2 := fun w => at_z s ((i : Int) + 2) (i + 2) (by omega) (by omega) (by omega) w
  have H2 := fun w => ref_hex (s.getD (i + 2) 0) w
  have D1 := fun w => ref_digit (s.getD (i + 1) 0) w
  subst hm
  have hL : Lx.isL 59 = false := by decide
  have hDc : Ty.isD 59 = false := by decide
  rw [hL] at L; rw [hDc] at D
  have hX : Lx.tokX 59 r = false := by rw [X]; rfl
  have hDt : Lx.tokD 59 r = false := by rw [DD]; rfl
  have hv : Lx.tokC 59 r = (⟨5, [59], 0, 0⟩, 0) := by unfold Lx.tokC; rw [if_neg (by rw [hL]; decide), if_neg (by rw [hX]; decide), if_neg (by rw [hDt]; decide), if_neg (by decide), if_neg (by decide), if_pos (by decide)]
  have htk : (s.drop i).take 1 = [59] := by rw [hd]; rfl
  have hcut := fun w => run_T_cut s .i64 .i64 (i : Int) ((i : Int) + 1) i (i + 1) rfl (by omega) (by omega) (by omega) (by omega) w
  rw [cut_text htk] at hcut
  have HV := Lib.hid hv
  clear hv htk hX hDt hDc hL
  clear hc hr hd hrl A1 A2 X DD DT H2 D1
  generalize Lx.tokC 59 r = res at *
  generalize ([59] : List UInt8) = txt at *
  replace L := Lib.hid L; replace D := Lib.hid D
  go_enter Tryz.func53, Tryz.ntmps53
  go_wp2_with fail
  refine (L.out _).mono ?_
  rintro e _ ⟨rfl, rfl⟩
  go_wp2_with fail
  refine (D.out _).mono ?_
  rintro e _ ⟨rfl, rfl⟩
  go_wp2_with fail
  exact bodyPost_ret (v := .tuple #[tkV 5 txt 0 (i : Int), .int .i64 0]) (by simp [results, Tryz.results53, go_sem, tkV]) rfl (one_mk HV.out (alloc_one _ _))
set_option maxRecDepth 100000 in
set_option maxHeartbeats 4000000 in
theorem one_none (s : List UInt8) (i : Nat) (c : UInt8) (r : List UInt8) (w : World) (hs : s.length ≤ 10000) (hi : i < s.length) (hd : s.drop i = c :: r) (hL : Lx.isL c = false) (hD : Ty.isD c = false) (h48 : c ≠ 48) (h45 : c ≠ 45) (h34 : c ≠ 34) (h35 : c ≠ 35) (h46 : c ≠ 46) (h58 : c ≠ 58) (h91 : c ≠ 91) (h93 : c ≠ 93) (h61 : c ≠ 61) (h59 : c ≠ 59) : Calls Tryz.prog 53 #[.string (T s), .int .i64 (i : Int)] w (OneP (Lx.tokC c r) i w) := by
  have hT := T_size s
  have hat := fun w => run_T_at s .i64 i i rfl hi w
  have hc : s.getD i 0 = c := by
    rw [drop_cons hi] at hd
    exact (List.cons.inj hd).1
  have hr : s.drop (i + 1) = r := by
    rw [drop_cons hi] at hd
    exact (List.cons.inj hd).2
  rw [hc] at hat
  have hrl : r.length + 1 + i = s.length := by rw [← hr, List.length_drop]; omega
  have b0 := alloc_one w (.cells tk0C 56)
  unfold tk0C at b0
  have L := fun w => ref_letter c w
  have D := fun w => ref_digit c w
  have X := tokX_at (c := c) hr
  have DD := tokD_at (c := c) hr
  have DT := dot_at hr
  have A1 := fun w => at_z s ((i : Int) + 1) (i + 1) (by omega) (by omega) (by omega) w
  have A2 := fun w => at_z s ((i : Int) + 2) (i + 2) (by omega) (by omega) (by omega) w
  have H2 := fun w => ref_hex (s.getD (i + 2) 0) w
  have D1 := fun w => ref_digit (s.getD (i + 1) 0) w
  rw [hL] at L
  rw [hD] at D
  have hX : Lx.tokX c r = false := by rw [X, beq_false_of_ne h48]; rfl
  have hDt : Lx.tokD c r = false := by rw [DD, hD, beq_false_of_ne h45]; rfl
  have hM : Lx.mark c = false := by unfold Lx.mark; rw [beq_false_of_ne h58, beq_false_of_ne h91, beq_false_of_ne h93, beq_false_of_ne h61, beq_false_of_ne h59]; rfl
  have hv : Lx.tokC c r = (Lx.tk0, 11) := by unfold Lx.tokC; rw [if_neg (by rw [hL]; decide), if_neg (by rw [hX]; decide), if_neg (by rw [hDt]; decide), if_neg h34, if_neg h35, if_neg (by rw [hM]; decide), if_neg (fun h => h46 h.1)]
  have e48 := byte_ne (k := 48) h48 rfl
  have e45 := byte_ne (k := 45) h45 rfl
  have e34 := byte_ne (k := 34) h34 rfl
  have e35 := byte_ne (k := 35) h35 rfl
  have e46 := byte_ne (k := 46) h46 rfl
  have e58 := byte_ne (k := 58) h58 rfl
  have e91 := byte_ne (k := 91) h91 rfl
  have e93 := byte_ne (k := 93) h93 rfl
  have e61 := byte_ne (k := 61) h61 rfl
  have e59 := byte_ne (k := 59) h59 rfl
  have HV := Lib.hid hv
  clear hv hX hDt hM hL hD h48 h45 h34 h35 h46 h58 h91 h93 h61 h59
  clear hc hr hd hrl A1 A2 X DD DT H2 D1
  generalize Lx.tokC c r = res at *
  replace L := Lib.hid L; replace D := Lib.hid D
  go_enter Tryz.func53, Tryz.ntmps53
  go_wp2_with fail
  refine (L.out _).mono ?_
  rintro e _ ⟨rfl, rfl⟩
  go_wp2_with fail
  refine (D.out _).mono ?_
  rintro e _ ⟨rfl, rfl⟩
  go_wp2_with fail
  exact bodyPost_ret (v := .tuple #[tkV 0 [] 0 0, .int .i64 11]) (by simp [results, Tryz.results53, go_sem, tkV, show T [] = (⟨#[]⟩ : ByteArray) from rfl]) rfl (one_no HV.out (by decide) (alloc_one _ _))
theorem one_any (s : List UInt8) (i : Nat) (w : World) (hs : s.length ≤ 10000) (hi : i < s.length) : Calls Tryz.prog 53 #[.string (T s), .int .i64 (i : Int)] w (OneP (Lx.tok (s.drop i)) i w) := by
  have hd := drop_cons hi
  generalize s.getD i 0 = c at *
  rw [hd, show Lx.tok (c :: s.drop (i + 1)) = Lx.tokC c (s.drop (i + 1)) from rfl]
  cases hL : Lx.isL c with
  | true => exact one_letter s i c _ w hs hi hd hL
  | false =>
  by_cases h48 : c = 48
  · by_cases hx : s.getD (i + 1) 0 = 120
    · cases hy : Lx.isH (s.getD (i + 2) 0) with
      | true =>
        by_cases hg : 4 < ((s.drop (i + 2)).takeWhile Lx.isH).length
        · exact one_hex_no s i c _ w hs hi hd h48 hx hy hg
        · exact one_hex s i c _ w hs hi hd h48 hx hy (by omega)
      | false =>
        subst h48
        by_cases hg : (Ty.parN (48 :: (s.drop (i + 1)).takeWhile Ty.isD)).2 = 0
        · exact one_num_c s i 48 _ w hs hi hd rfl hx hy hg
        · exact one_num_c_no s i 48 _ w hs hi hd rfl hx hy hg
    · subst h48
      by_cases hg : (Ty.parN (48 :: (s.drop (i + 1)).takeWhile Ty.isD)).2 = 0
      · exact one_num_b s i 48 _ w hs hi hd rfl hx hg
      · exact one_num_b_no s i 48 _ w hs hi hd rfl hx hg
  cases hD : Ty.isD c with
  | true =>
    by_cases hg : (Ty.parN (c :: (s.drop (i + 1)).takeWhile Ty.isD)).2 = 0
    · exact one_num_a s i c _ w hs hi hd hL h48 hD hg
    · exact one_num_a_no s i c _ w hs hi hd hL h48 hD hg
  | false =>
  by_cases h45 : c = 45
  · cases hx : Ty.isD (s.getD (i + 1) 0) with
    | true =>
      subst h45
      by_cases hg : (Ty.parN (45 :: (s.drop (i + 1)).takeWhile Ty.isD)).2 = 0
      · exact one_num_m s i 45 _ w hs hi hd rfl hx hg
      · exact one_num_m_no s i 45 _ w hs hi hd rfl hx hg
    | false => exact one_minus_no s i c _ w hs hi hd h45 hx
  by_cases h34 : c = 34
  · cases hq : Lx.qlen false (s.drop (i + 1)) with
    | none => exact one_quo_no s i c _ w hs hi hd h34 hq
    | some k => exact one_quo s i c _ w hs hi hd h34 k hq
  by_cases h35 : c = 35
  · exact one_sharp s i c _ w hs hi hd h35
  by_cases h46 : c = 46
  · by_cases hx : s.getD (i + 1) 0 = 46
    · exact one_dots s i c _ w hs hi hd h46 hx
    · exact one_dot_no s i c _ w hs hi hd h46 hx
  by_cases h58 : c = 58
  · exact one_mark58 s i c _ w hs hi hd h58
  by_cases h91 : c = 91
  · exact one_mark91 s i c _ w hs hi hd h91
  by_cases h93 : c = 93
  · exact one_mark93 s i c _ w hs hi hd h93
  by_cases h61 : c = 61
  · exact one_mark61 s i c _ w hs hi hd h61
  by_cases h59 : c = 59
  · exact one_mark59 s i c _ w hs hi hd h59
  exact one_none s i c _ w hs hi hd hL hD h48 h45 h34 h35 h46 h58 h91 h93 h61 h59
end Go.Proofs.YtmolmpgampmolaaGreat
/-
  Walk: Scan of the reference of package lex.
  Conditions: none.
-/
namespace Go.Proofs.YtmolmpgampmolaaGreat
set_option linter.unusedVariables false
set_option linter.unusedSimpArgs false
open Go.RowKit
theorem skip_z (s : List UInt8) (z : Int) (j : Nat) (hz : z = (j : Int)) (hs : s.length ≤ 1000000) (hj : j ≤ s.length) (w : World) :
    Calls Tryz.prog 52 #[.string (T s), .int .i64 z] w fun e w' => e = .returned (.int .i64 (Lx.pos s j : Int)) ∧ w' = w := by subst hz; exact skip_any s j w hs hj
set_option maxRecDepth 100000 in
set_option maxHeartbeats 4000000 in
theorem RScan_any (s : List UInt8) (w : World) (hs : s.length ≤ 1000000) : Calls Tryz.prog 20 #[.string (T s)] w (ScanPost (Lx.scanS s) w) := by
  have hT := T_size s
  by_cases hb : 8192 < s.length
  · have hv : Lx.scanS s = ([], 3, 0) := if_pos hb
    have HV := Lib.hid hv; clear hv
    go_enter Tryz.func20, Tryz.ntmps20
    go_wp2_with fail
    go_ret3
    exact scan_none HV.out rfl (Below.refl _ _)
  have hs8 : s.length ≤ 8192 := by omega
  have hv : Lx.scanS s = Lx.glue [] (Lx.scanF (s.length + 1) s (Lx.pos s 0)) := by
    unfold Lx.scanS
    rw [if_neg hb, Lx.glue_nil]
  have hp0 := Lx.pos_le s 0
  have H0 := Lib.hid (skip_z s 0 0 rfl hs (by omega) w)
  generalize hq : Lx.pos s 0 = q at *
  have HV : Hid (Lx.scanS s = Lx.glue [] (Lx.scanF (s.length + 1) s q)) := Lib.hid hv
  clear hv hb hq
  go_enter Tryz.func20, Tryz.ntmps20
  go_wp2_with fail
  refine (H0.out).mono ?_
  rintro e w ⟨rfl, rfl⟩
  clear H0
  go_wp2_with fail
  go_loopw [5, 6] (fun v u wr => ∃ (k p : Nat) (ts : List Lx.Tk) (A1 : Option Addr) (c1 : Nat), v = .slice A1 ts.length c1 ∧ u = .int .i64 p ∧ p ≤ s.length ∧ s.length < p + k ∧ ts.length ≤ p ∧ Hid (Lx.scanS s = Lx.glue ts (Lx.scanF k s p)) ∧ OTk wr w.heap.size A1 ts.length c1 ts ∧ Below w.heap.size w wr) (fun _ u _ => s.length - (intOf u).toNat)
  case atStart => exact ⟨s.length + 1, q, [], none, 0, rfl, rfl, hp0, by omega, by simp, HV, OTk.none_ _ _, Below.refl _ _⟩
  case round =>
    obtain ⟨k, p, ts, A1, c1, rfl, rfl, hp, hk, hl, HG, os, bb⟩ := hrel
    by_cases hplt : p < s.length
    · have N := one_any s p wr (by omega) hplt
      cases ht : Lx.tok (s.drop p) with
      | mk t x =>
      rw [ht] at N
      obtain ⟨kd, tx, n, pl⟩ := t
      by_cases hx : x = 0
      · subst hx
        have N' : Calls Tryz.prog 53 #[.string (T s), .int .i64 (p : Int)] wr fun e w' => e = .returned (.tuple #[.agg #[.int .i64 kd, .string (T tx), .int .i64 n, .int .i64 (p : Int)], .int .i64 0]) ∧ Below wr.heap.size wr w' := N
        clear N
        obtain ⟨j, g1, g2, g3, g4⟩ := Lx.glue_step ts hplt hk ht
        dsimp only at g1 g2 g3 g4
        have htlen := Lx.tok_len (s := s.drop p) (by rw [ht])
        rw [ht, List.length_drop] at htlen
        dsimp only at htlen
        have hTx := T_size tx
        have P := fun w => skip_z s ((p : Int) + (tx.length : Int)) (p + tx.length) (by omega) (by omega) (by omega) w
        have HG2 := Lib.hid (HG.out.trans g1)
        generalize Lx.pos s (p + tx.length) = q2 at *
        have N := Lib.hid N'
        replace P := Lib.hid P
        have hts1 : (ts.length + 1) * 40 ≤ 140737488355328 := by omega
        have hts2 : ts.length + 1 ≤ 9223372036854775807 := by omega
        clear N' g1 ht HG
        go_wp2_with fail
        refine (N.out).mono ?_
        rintro e w2 ⟨rfl, b2⟩
        have d2 := below_step bb b2 (Nat.le_refl _)
        have os2 := os.below b2
        have d3 := d2.alloc d2.size (.cells #[.int .i64 kd, .string (T tx), .int .i64 n, .int .i64 (p : Int)] 56)
        have os3 := os2.below (alloc_one w2 (.cells #[.int .i64 kd, .string (T tx), .int .i64 n, .int .i64 (p : Int)] 56))
        have K3 := Blk.new w2 56 #[.int .i64 kd, .string (T tx), .int .i64 n, .int .i64 (p : Int)]
        have hlt2 := os2.lt
        have HLT2 := Lib.hid hlt2
        clear N os2 os hlt2
        go_wp2_with (at_builtin; refine wpList_apps ettk (fun _ => TkR) rfl (.tmp 28) (.tmp 30) rfl rfl rfl (by simp) w.heap.size os3 ⟨kd, tx, n, p⟩ (tkR_mk rfl) rfl (tok_oneCell _ _ _ _) hts1 hts2 d3.size (fun _ _ _ _ _ _ _ _ _ h => h) ?_; intro A3 c3 w3 os4 b4 g4' _; have K4 := (K3.grown g4' (fun e => by have := (HLT2.out _ e.symm).2; omega)).four; have d4 := d2.trans ((alloc_one w2 (.cells #[.int .i64 kd, .string (T tx), .int .i64 n, .int .i64 (p : Int)] 56)).mono d2.size |>.trans b4))
        refine (P.out _).mono ?_
        rintro e w3 ⟨rfl, rfl⟩
        go_wp2_with fail
        go_roundw
        case rel => exact ⟨j, q2, ts ++ [⟨kd, tx, n, p⟩], A3, c3, by rw [List.length_append]; rfl, rfl, g3, g2, by rw [List.length_append]; simp; omega, HG2, by rw [List.length_append]; exact os4, d4⟩
        case measure => simp [intOf] <;> omega
      · have N' : Calls Tryz.prog 53 #[.string (T s), .int .i64 (p : Int)] wr fun e w' => e = .returned (.tuple #[.agg #[.int .i64 kd, .string (T tx), .int .i64 n, .int .i64 (if x = 0 then (p : Int) else 0)], .int .i64 x]) ∧ Below wr.heap.size wr w' := N
        clear N
        rw [if_neg hx] at N'
        have N := Lib.hid N'
        have HE := Lib.hid (HG.out.trans (Lx.glue_bad ts hplt hk ht hx))
        have hx1 : (x != 0) = true := by simpa using hx
        clear ht HG hx N'
        go_wp2_with fail
        refine (N.out).mono ?_
        rintro e w2 ⟨rfl, b2⟩
        have d2 := below_step bb b2 (Nat.le_refl _)
        clear N
        go_wp2_with fail
        go_ret3
        exact scan_none HE.out rfl (d2.alloc d2.size _)
    · have HE := Lib.hid (HG.out.trans (Lx.glue_end ts (by omega)))
      clear HG
      obtain rfl : p = s.length := by omega
      go_wp2_with fail
      go_ret3
      exact scan_some HE.out rfl os bb
end Go.Proofs.YtmolmpgampmolaaGreat
