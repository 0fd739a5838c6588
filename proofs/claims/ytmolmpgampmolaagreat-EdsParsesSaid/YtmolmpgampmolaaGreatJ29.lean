/-
  Texts joined: LexOneH.
  Conditions: none.
-/
import Derived.Test.YtmolmpgampmolaaGreatJ28
/-
  Walk: the reference of package lex: one (hexadecimal).
  Conditions: none.
-/
namespace Go.Proofs.YtmolmpgampmolaaGreat
set_option linter.unusedVariables false
set_option linter.unusedSimpArgs false
open Go.RowKit
set_option maxRecDepth 100000 in
set_option maxHeartbeats 4000000 in
theorem one_hex (s : List UInt8) (i : Nat) (c : UInt8) (r : List UInt8) (w : World) (hs : s.length ≤ 10000) (hi : i < s.length) (hd : s.drop i = c :: r) (h48 : c = 48) (hx : s.getD (i + 1) 0 = 120) (hy : Lx.isH (s.getD (i + 2) 0) = true) (hg : ((s.drop (i + 2)).takeWhile Lx.isH).length ≤ 4) : Calls Tryz.prog 53 #[.string (T s), .int .i64 (i : Int)] w (OneP (Lx.tokC c r) i w) := by
  have hT := T_size s
  have hat := fun w => run_T_at s .i64 i i rfl hi w
  have hc : s.getD i 0 = c := by
    rw [drop_cons hi] at hd
    exact (List.cons.inj hd).1
  have hr : s.drop (i + 1) = r := by
    rw [drop_cons hi] at hd
    exact (List.cons.inj hd).2
  rw [hc] at hat
  have hrl : r.length + 1 + i = s.length := by rw [← hr, List.length_drop]; omega
  have b0 := alloc_one w (.cells tk0C 56)
  unfold tk0C at b0
  have L := fun w => ref_letter c w
  have D := fun w => ref_digit c w
  have X := tokX_at (c := c) hr
  have DD := tokD_at (c := c) hr
  have DT := dot_at hr
  have A1 := fun w => at_z s ((i : Int) + 1) (i + 1) (by omega) (by omega) (by omega) w
  have A2 := fun w => at_z s ((i : Int) + 2) (i + 2) (by omega) (by omega) (by omega) w
  have H2 := fun w => ref_hex (s.getD (i + 2) 0) w
  have D1 := fun w => ref_digit (s.getD (i + 1) 0) w
  subst h48
  have hL : Lx.isL 48 = false := by decide
  have hDc : Ty.isD 48 = true := by decide
  rw [hL] at L; rw [hDc] at D
  have hX : Lx.tokX 48 r = true := by rw [X, hx, hy]; rfl
  have hr2 : r = 120 :: s.drop (i + 2) := by
    have hlt : i + 1 < s.length := by
      rcases Nat.lt_or_ge (i + 1) s.length with h | h
      · exact h
      · rw [List.getD_eq_getElem?_getD, List.getElem?_eq_none h] at hx
        exact absurd hx (by decide)
    rw [← hr, drop_cons hlt, hx]
  have hv : Lx.tokC 48 r = if 4 < ((s.drop (i + 2)).takeWhile Lx.isH).length then (Lx.tk0, 12) else (⟨3, 48 :: 120 :: (s.drop (i + 2)).takeWhile Lx.isH, Lx.hexV ((s.drop (i + 2)).takeWhile Lx.isH), 0⟩, 0) := by unfold Lx.tokC; rw [if_neg (by rw [hL]; decide), if_pos hX, hr2]; rfl
  have W := fun w => hexs_z s ((i : Int) + 2) (i + 2) (by omega) (by omega) (by omega) w
  have htk : (s.drop i).take (2 + ((s.drop (i + 2)).takeWhile Lx.isH).length) = 48 :: 120 :: (s.drop (i + 2)).takeWhile Lx.isH := by rw [hd, hr2, Nat.add_comm, List.take_succ_cons, List.take_succ_cons, take_tw]
  have htk2 : (s.drop (i + 2)).take ((s.drop (i + 2)).takeWhile Lx.isH).length = (s.drop (i + 2)).takeWhile Lx.isH := take_tw _ _
  have hle : i + (2 + ((s.drop (i + 2)).takeWhile Lx.isH).length) ≤ s.length := by
    have := (List.takeWhile_prefix Lx.isH (l := s.drop (i + 2))).length_le
    rw [List.length_drop] at this
    rw [hr2] at hrl
    rw [List.length_cons, List.length_drop] at hrl
    omega
  have hall : ((s.drop (i + 2)).takeWhile Lx.isH).all Lx.isH = true := List.all_takeWhile
  rw [hx] at A1
  rw [hy] at H2
  generalize s.getD (i + 2) 0 = y at *
  clear hx hDc hy hr2 hX hL
  rw [if_neg (by omega)] at hv
  have hcut := fun w => run_T_cut s .i64 .i64 (i : Int) ((i : Int) + 2 + (((s.drop (i + 2)).takeWhile Lx.isH).length : Int)) i (i + (2 + ((s.drop (i + 2)).takeWhile Lx.isH).length)) rfl (by omega) (by omega) hle (by omega) w
  rw [cut_text htk] at hcut
  have hcut2 := fun w => run_T_cut s .i64 .i64 ((i : Int) + 2) ((i : Int) + 2 + (((s.drop (i + 2)).takeWhile Lx.isH).length : Int)) (i + 2) (i + 2 + ((s.drop (i + 2)).takeWhile Lx.isH).length) (by omega) (by omega) (by omega) (by omega) (by omega) w
  rw [cut_text htk2] at hcut2
  have hex := hex_two hall hg
  have HV := Lib.hid hv
  clear hv htk htk2 hall
  clear hc hr hd hrl D X DD DT D1
  generalize Lx.tokC 48 r = res at *
  generalize (48 :: 120 :: (s.drop (i + 2)).takeWhile Lx.isH : List UInt8) = txt at *
  generalize (s.drop (i + 2)).takeWhile Lx.isH = d at *
  obtain ⟨a, b, u1, u2⟩ := hex
  have hadd := fun w => run_T_add [48, 48, 48, 48] d (by simp; omega) w
  rw [show T [48, 48, 48, 48] = (⟨#[48, 48, 48, 48]⟩ : ByteArray) from rfl] at hadd
  have hrest := fun w => run_T_rest ([48, 48, 48, 48] ++ d) .i64 (d.length : Int) d.length rfl (by simp; omega) w
  have hTd := T_size d
  have U := fun w => RUnhex_any (([48, 48, 48, 48] ++ d).drop d.length) w (by simp; omega)
  simp only [show ∀ l : List UInt8, (⟨l.toArray⟩ : ByteArray) = T l from fun _ => rfl] at U
  rw [u1] at U
  have hU2 : (256 : Int) * (a.toNat : Int) + (b.toNat : Int) = (Lx.hexV d : Int) := by omega
  have ha := byte_lt a
  have hb := byte_lt b
  have HU2 := Lib.hid hU2
  clear u1 u2 hU2
  generalize (([48, 48, 48, 48] ++ d).drop d.length : List UInt8) = q at *
  generalize ([48, 48, 48, 48] ++ d : List UInt8) = q2 at *
  generalize (Lx.hexV d : Int) = hx at *
  generalize d.length = m at *
  replace L := Lib.hid L; replace A1 := Lib.hid A1; replace A2 := Lib.hid A2; replace H2 := Lib.hid H2; replace W := Lib.hid W; replace U := Lib.hid U
  go_enter Tryz.func53, Tryz.ntmps53
  go_wp2_with fail
  refine (L.out _).mono ?_
  rintro e _ ⟨rfl, rfl⟩
  go_wp2_with fail
  refine (A1.out _).mono ?_
  rintro e _ ⟨rfl, rfl⟩
  go_wp2_with fail
  refine (A2.out _).mono ?_
  rintro e _ ⟨rfl, rfl⟩
  go_wp2_with fail
  refine (H2.out _).mono ?_
  rintro e _ ⟨rfl, rfl⟩
  go_wp2_with fail
  refine (W.out _).mono ?_
  rintro e _ ⟨rfl, rfl⟩
  go_wp2_with fail
  refine (U.out _).mono ?_
  rintro e w1 ⟨A1, c1, rfl, o1, b1⟩
  dsimp only [List.length_cons, List.length_nil] at o1
  have K1 := Blk.made b1
  have d1 := below_step (alloc_one _ _) b1 (Nat.le_refl _)
  obtain ⟨g, o, rfl, hgB, hc⟩ := o1.rb.at_ (by omega)
  have c0 := hc 0 (by omega)
  have c1' := hc 1 (by omega)
  have hcle := o1.rb.le
  simp only [List.getD_cons_zero, List.getD_cons_succ, Nat.add_zero] at c0 c1'
  have F1 := K1.four
  clear o1 hc
  go_wp2_with fail
  have q1 : IntKind.i64.wrap ((i : Int) + 2) = (i : Int) + 2 := IntWalk.i64_in _ (by omega)
  have q2 : IntKind.i64.wrap ((i : Int) + 2 + (m : Int)) = (i : Int) + 2 + (m : Int) := IntWalk.i64_in _ (by omega)
  have q3 : IntKind.i64.wrap (256 * (a.toNat : Int)) = 256 * (a.toNat : Int) := IntWalk.i64_in _ (by omega)
  have q4 : IntKind.i64.wrap (256 * (a.toNat : Int) + (b.toNat : Int)) = 256 * (a.toNat : Int) + (b.toNat : Int) := IntWalk.i64_in _ (by omega)
  have q5 : IntKind.i64.wrap (a.toNat : Int) = (a.toNat : Int) := IntWalk.i64_in _ (by omega)
  have q6 : IntKind.i64.wrap (b.toNat : Int) = (b.toNat : Int) := IntWalk.i64_in _ (by omega)
  go_still_tail 19, (by kernel_rfl)
  clear q1 q2 q3 q4 q5 q6
  change wpList _ _ _ _ _ w1.drew
  go_wp2_with fail
  obtain ⟨⟨r0, r1, r2, r3⟩, _⟩ := (K1.store4 (.int .i64 3) (.string (T txt)) (.int .i64 hx) (.int .i64 (i : Int))).four
  exact bodyPost_ret (v := .tuple #[tkV 3 txt hx (i : Int), .int .i64 0]) (by simp [results, Tryz.results53, go_sem, r0, r1, r2, r3, tkV, HU2.out]) rfl (one_mk HV.out (below_set4 d1 (Nat.le_refl _) _ _ _ _ _ _ _ _).drew)
set_option maxRecDepth 100000 in
set_option maxHeartbeats 4000000 in
theorem one_hex_no (s : List UInt8) (i : Nat) (c : UInt8) (r : List UInt8) (w : World) (hs : s.length ≤ 10000) (hi : i < s.length) (hd : s.drop i = c :: r) (h48 : c = 48) (hx : s.getD (i + 1) 0 = 120) (hy : Lx.isH (s.getD (i + 2) 0) = true) (hg : 4 < ((s.drop (i + 2)).takeWhile Lx.isH).length) : Calls Tryz.prog 53 #[.string (T s), .int .i64 (i : Int)] w (OneP (Lx.tokC c r) i w) := by
  have hT := T_size s
  have hat := fun w => run_T_at s .i64 i i rfl hi w
  have hc : s.getD i 0 = c := by
    rw [drop_cons hi] at hd
    exact (List.cons.inj hd).1
  have hr : s.drop (i + 1) = r := by
    rw [drop_cons hi] at hd
    exact (List.cons.inj hd).2
  rw [hc] at hat
  have hrl : r.length + 1 + i = s.length := by rw [← hr, List.length_drop]; omega
  have b0 := alloc_one w (.cells tk0C 56)
  unfold tk0C at b0
  have L := fun w => ref_letter c w
  have D := fun w => ref_digit c w
  have X := tokX_at (c := c) hr
  have DD := tokD_at (c := c) hr
  have DT := dot_at hr
  have A1 := fun w => at_z s ((i : Int) + 1) (i + 1) (by omega) (by omega) (by omega) w
  have A2 := fun w => at_z s ((i : Int) + 2) (i + 2) (by omega) (by omega) (by omega) w
  have H2 := fun w => ref_hex (s.getD (i + 2) 0) w
  have D1 := fun w => ref_digit (s.getD (i + 1) 0) w
  subst h48
  have hL : Lx.isL 48 = false := by decide
  have hDc : Ty.isD 48 = true := by decide
  rw [hL] at L; rw [hDc] at D
  have hX : Lx.tokX 48 r = true := by rw [X, hx, hy]; rfl
  have hr2 : r = 120 :: s.drop (i + 2) := by
    have hlt : i + 1 < s.length := by
      rcases Nat.lt_or_ge (i + 1) s.length with h | h
      · exact h
      · rw [List.getD_eq_getElem?_getD, List.getElem?_eq_none h] at hx
        exact absurd hx (by decide)
    rw [← hr, drop_cons hlt, hx]
  have hv : Lx.tokC 48 r = if 4 < ((s.drop (i + 2)).takeWhile Lx.isH).length then (Lx.tk0, 12) else (⟨3, 48 :: 120 :: (s.drop (i + 2)).takeWhile Lx.isH, Lx.hexV ((s.drop (i + 2)).takeWhile Lx.isH), 0⟩, 0) := by unfold Lx.tokC; rw [if_neg (by rw [hL]; decide), if_pos hX, hr2]; rfl
  have W := fun w => hexs_z s ((i : Int) + 2) (i + 2) (by omega) (by omega) (by omega) w
  have htk : (s.drop i).take (2 + ((s.drop (i + 2)).takeWhile Lx.isH).length) = 48 :: 120 :: (s.drop (i + 2)).takeWhile Lx.isH := by rw [hd, hr2, Nat.add_comm, List.take_succ_cons, List.take_succ_cons, take_tw]
  have htk2 : (s.drop (i + 2)).take ((s.drop (i + 2)).takeWhile Lx.isH).length = (s.drop (i + 2)).takeWhile Lx.isH := take_tw _ _
  have hle : i + (2 + ((s.drop (i + 2)).takeWhile Lx.isH).length) ≤ s.length := by
    have := (List.takeWhile_prefix Lx.isH (l := s.drop (i + 2))).length_le
    rw [List.length_drop] at this
    rw [hr2] at hrl
    rw [List.length_cons, List.length_drop] at hrl
    omega
  have hall : ((s.drop (i + 2)).takeWhile Lx.isH).all Lx.isH = true := List.all_takeWhile
  rw [hx] at A1
  rw [hy] at H2
  generalize s.getD (i + 2) 0 = y at *
  clear hx hDc hy hr2 hX hL
  rw [if_pos hg] at hv
  have HV := Lib.hid hv
  clear hv htk htk2 hall
  clear hc hr hd hrl D X DD DT D1
  generalize Lx.tokC 48 r = res at *
  generalize ((s.drop (i + 2)).takeWhile Lx.isH).length = m at *
  replace L := Lib.hid L; replace A1 := Lib.hid A1; replace A2 := Lib.hid A2; replace H2 := Lib.hid H2; replace W := Lib.hid W
  go_enter Tryz.func53, Tryz.ntmps53
  go_wp2_with fail
  refine (L.out _).mono ?_
  rintro e _ ⟨rfl, rfl⟩
  go_wp2_with fail
  refine (A1.out _).mono ?_
  rintro e _ ⟨rfl, rfl⟩
  go_wp2_with fail
  refine (A2.out _).mono ?_
  rintro e _ ⟨rfl, rfl⟩
  go_wp2_with fail
  refine (H2.out _).mono ?_
  rintro e _ ⟨rfl, rfl⟩
  go_wp2_with fail
  refine (W.out _).mono ?_
  rintro e _ ⟨rfl, rfl⟩
  go_wp2_with fail
  exact bodyPost_ret (v := .tuple #[tkV 0 [] 0 0, .int .i64 12]) (by simp [results, Tryz.results53, go_sem, tkV, show T [] = (⟨#[]⟩ : ByteArray) from rfl]) rfl (one_no HV.out (by decide) (alloc_one _ _))
end Go.Proofs.YtmolmpgampmolaaGreat
