/-
  Texts joined: LexNext, LexScan.
  Conditions: none.
-/
import Derived.Test.YtmolmpgampmolaaJ06
import Derived.Test.YtmolmpgampmolaaJ14
import Derived.WalkMore
import Derived.ScopeJumps
/-
  Walk: next of package lex.
  Conditions: none.
-/
namespace Go.Proofs.Ytmolmpgampmolaa
set_option linter.unusedVariables false
set_option linter.unusedSimpArgs false
open Go.RowKit
def TokP (p : Lx.Tk × Int) (w : World) (e : Ending) (w' : World) : Prop := e = .returned (.tuple #[tkV p.1.kind p.1.text p.1.n 0, .int .i64 p.2]) ∧ Below w.heap.size w w'
theorem tokP_mk {p : Lx.Tk × Int} {w w' : World} {k n x : Int} {s : List UInt8} (h : p = (⟨k, s, n, 0⟩, x)) (hb : Below w.heap.size w w') : TokP p w (.returned (.tuple #[tkV k s n 0, .int .i64 x])) w' := by subst h; exact ⟨rfl, hb⟩
theorem tokX_begins (c : UInt8) (r : List UInt8) : ((c :: r).take 2 == [48, 120] && Lx.fst (fun c => Lx.rH c.toNat) ((c :: r).drop 2)) = Lx.tokX c r := by
  have e : Lx.isH = fun c => Lx.rH c.toNat := funext Lx.isH_r
  rw [← e]
  unfold Lx.tokX
  cases r with
  | nil => simp [Lx.fst]
  | cons a q =>
    simp only [List.take_succ_cons, List.take_zero, List.drop_succ_cons, List.drop_zero, List.tail_cons, Lx.fst]
    rw [Bool.eq_iff_iff]
    simp
theorem tokM_begins (c : UInt8) (r : List UInt8) : ((c :: r).take 1 == [45] && Lx.fst (fun c => Lx.rD c.toNat) ((c :: r).drop 1)) = (c == 45 && Lx.fst Ty.isD r) := by
  have e : Ty.isD = fun c => Lx.rD c.toNat := funext Lx.isD_r
  rw [← e]
  rw [Bool.eq_iff_iff]
  simp
theorem T2 : T [48, 120] = (⟨#[48, 120]⟩ : ByteArray) := rfl
theorem T1 : T [45] = (⟨#[45]⟩ : ByteArray) := rfl
theorem TD : T [46, 46] = (⟨#[46, 46]⟩ : ByteArray) := rfl
set_option maxRecDepth 100000 in
set_option maxHeartbeats 8000000 in
theorem next_any (c : UInt8) (r : List UInt8) (w : World) (hs : (c :: r).length ≤ 10000) : Calls Try.prog 18 #[.string (T (c :: r))] w (TokP (Lx.tok (c :: r)) w) := by
  have hT := T_size (c :: r)
  have hat := fun w => run_T_at (c :: r) .i64 0 0 rfl (by simp) w
  rw [show (c :: r).getD 0 0 = c from rfl] at hat
  have hc256 := byte_lt c
  have b0 := alloc_one w (.cells tk0C 28)
  unfold tk0C at b0
  have L := fun w => rune_letter c.toNat w (by omega)
  have D := fun w => rune_digit c.toNat w (by omega)
  have X := fun w => begins_any 39 Lx.rH (fun _ _ => by kernel_rfl) rune_hex (c :: r) [48, 120] w (by omega) (by decide)
  have M := fun w => begins_any 41 Lx.rD (fun _ _ => by kernel_rfl) rune_digit (c :: r) [45] w (by omega) (by decide)
  simp only [show ([48, 120] : List UInt8).length = 2 from rfl, show ([45] : List UInt8).length = 1 from rfl, tokX_begins, tokM_begins, T2, T1] at X M
  rw [← Lx.isL_r] at L
  rw [← Lx.isD_r] at D
  rw [show Lx.tok (c :: r) = Lx.tokC c r from rfl]
  by_cases hL : Lx.isL c = true
  · have hv : Lx.tokC c r = (⟨1, c :: r.takeWhile Lx.inW, 0, 0⟩, 0) := by unfold Lx.tokC; rw [if_pos hL]
    rw [hL] at L
    have HV := Lib.hid hv; clear hv
    have H := head_inner (c :: r)
    have hw : (c :: r).takeWhile Lx.inW = c :: r.takeWhile Lx.inW := by rw [List.takeWhile_cons, if_pos (by unfold Lx.inW; rw [hL]; rfl)]
    rw [hw] at H
    have H2 := Lib.hid (fun w => H w (by omega))
    clear H hw hL X M D
    generalize Lx.tokC c r = res at *
    generalize (c :: r : List UInt8) = s at *
    generalize (c :: r.takeWhile Lx.inW : List UInt8) = txt at *
    replace L := Lib.hid L
    go_enter Try.func18, Try.ntmps18
    go_wp2_with fail
    go_step3
    go_wp2_with fail
    refine (L.out _).mono ?_
    rintro e _ ⟨rfl, rfl⟩
    go_wp2_with fail
    refine (H2.out _).mono ?_
    rintro e w1 ⟨rfl, b1⟩
    have K2 := Blk.made b1
    have F2 := K2.four
    have d1 := below_step (alloc_one _ _) b1 (Nat.le_refl _)
    go_wp2_with fail
    rw [Exit.noGoto_ret]
    obtain ⟨⟨r0, r1, r2, r3⟩, _⟩ := ((K2.store4 (.int .i64 1) (.string (T txt)) (.int .i64 0) (.int .i64 0)).store4 (.int .i64 1) (.string (T txt)) (.int .i64 0) (.int .i64 0)).four
    exact bodyPost_ret (v := .tuple #[tkV 1 txt 0 0, .int .i64 0]) (by simp [results, Try.results18, go_sem, r0, r1, r2, r3, tkV, show T [] = (⟨#[]⟩ : ByteArray) from rfl]) rfl (tokP_mk HV.out (below_set4 (below_set4 d1 (Nat.le_refl _) _ _ _ _ _ _ _ _) (Nat.le_refl _) _ _ _ _ _ _ _ _))
  have hLf : Lx.isL c = false := by simpa using hL
  rw [hLf] at L
  have ht1 := hL
  by_cases hX : Lx.tokX c r = true
  · rw [hX] at X
    obtain ⟨rfl, q, rfl, hq⟩ := Lx.tokX_head hX
    have hv : Lx.tokC 48 (120 :: q) = if 4 < (q.takeWhile Lx.isH).length then (Lx.tk0, 12) else (⟨3, 48 :: 120 :: q.takeWhile Lx.isH, Lx.hexV (q.takeWhile Lx.isH), 0⟩, 0) := by unfold Lx.tokC; rw [if_neg hL, if_pos hX]; rfl
    have H := fun w => hexed_any q w (by simp only [List.length_cons] at hs; omega)
    simp only [tkV] at H
    generalize Lx.tokC 48 (120 :: q) = res at *
    generalize q.takeWhile Lx.isH = d at *
    generalize (Lx.hexV d : Int) = n at *
    generalize (48 :: 120 :: q : List UInt8) = s at *
    generalize (48 :: 120 :: d : List UInt8) = txt at *
    clear hX hL ht1 hLf hq
    replace L := Lib.hid L; replace X := Lib.hid X; replace D := Lib.hid D; replace M := Lib.hid M
    by_cases h4 : 4 < d.length
    · rw [if_pos h4] at hv
      rw [show decide (d.length ≤ 4) = false by simp; omega] at H
      have HV := Lib.hid hv; clear hv h4
      replace H := Lib.hid H
      go_enter Try.func18, Try.ntmps18
      go_wp2_with fail
      go_step3
      go_wp2_with fail
      refine (L.out _).mono ?_
      rintro e _ ⟨rfl, rfl⟩
      go_wp2_with fail
      refine (X.out _).mono ?_
      rintro e _ ⟨rfl, rfl⟩
      go_wp2_with fail
      refine (H.out _).mono ?_
      rintro e w1 ⟨rfl, b1⟩
      have K2 := Blk.made b1
      have F2 := K2.four
      have d1 := below_step (alloc_one _ _) b1 (Nat.le_refl _)
      go_wp2_with fail
      go_step3
      go_wp2_with fail
      rw [Exit.noGoto_ret]
      obtain ⟨⟨r0, r1, r2, r3⟩, _⟩ := ((K2.store4 (.int .i64 3) (.string (T txt)) (.int .i64 n) (.int .i64 0)).store4 (.int .i64 0) (.string ⟨#[]⟩) (.int .i64 0) (.int .i64 0)).four
      exact bodyPost_ret (v := .tuple #[tkV 0 [] 0 0, .int .i64 12]) (by simp [results, Try.results18, go_sem, r0, r1, r2, r3, tkV, show T [] = (⟨#[]⟩ : ByteArray) from rfl]) rfl (tokP_mk HV.out (below_set4 (below_set4 d1 (Nat.le_refl _) _ _ _ _ _ _ _ _) (Nat.le_refl _) _ _ _ _ _ _ _ _))
    · rw [if_neg h4] at hv
      rw [show decide (d.length ≤ 4) = true by simp; omega] at H
      have HV := Lib.hid hv; clear hv h4
      replace H := Lib.hid H
      go_enter Try.func18, Try.ntmps18
      go_wp2_with fail
      go_step3
      go_wp2_with fail
      refine (L.out _).mono ?_
      rintro e _ ⟨rfl, rfl⟩
      go_wp2_with fail
      refine (X.out _).mono ?_
      rintro e _ ⟨rfl, rfl⟩
      go_wp2_with fail
      refine (H.out _).mono ?_
      rintro e w1 ⟨rfl, b1⟩
      have K2 := Blk.made b1
      have F2 := K2.four
      have d1 := below_step (alloc_one _ _) b1 (Nat.le_refl _)
      go_wp2_with fail
      rw [Exit.noGoto_ret]
      obtain ⟨⟨r0, r1, r2, r3⟩, _⟩ := ((K2.store4 (.int .i64 3) (.string (T txt)) (.int .i64 n) (.int .i64 0)).store4 (.int .i64 3) (.string (T txt)) (.int .i64 n) (.int .i64 0)).four
      exact bodyPost_ret (v := .tuple #[tkV 3 txt n 0, .int .i64 0]) (by simp [results, Try.results18, go_sem, r0, r1, r2, r3, tkV, show T [] = (⟨#[]⟩ : ByteArray) from rfl]) rfl (tokP_mk HV.out (below_set4 (below_set4 d1 (Nat.le_refl _) _ _ _ _ _ _ _ _) (Nat.le_refl _) _ _ _ _ _ _ _ _))
  have hXf : Lx.tokX c r = false := by simpa using hX
  rw [hXf] at X
  by_cases hD : Lx.tokD c r = true
  · have hv : Lx.tokC c r = if (Ty.parN (c :: r.takeWhile Ty.isD)).2 ≠ 0 then (Lx.tk0, 12) else (⟨2, c :: r.takeWhile Ty.isD, (Ty.parN (c :: r.takeWhile Ty.isD)).1, 0⟩, 0) := by unfold Lx.tokC; rw [if_neg hL, if_neg hX, if_pos hD]
    have H := fun w => lex_number c r w hD hs
    generalize Lx.tokC c r = res at *
    generalize (c :: r.takeWhile Ty.isD : List UInt8) = txt at *
    generalize (c :: r : List UInt8) = s at *
    by_cases hd : Ty.isD c = true
    · rw [hd] at D
      clear hX hL ht1 hLf hXf hD hd
      replace L := Lib.hid L; replace X := Lib.hid X; replace D := Lib.hid D; replace M := Lib.hid M
      by_cases hp : (Ty.parN txt).2 = 0
      · rw [if_neg (by rw [hp]; decide)] at hv
        rw [(num_ok hp).1, (num_ok hp).2] at H
        simp only [tkV] at H
        generalize (Ty.parN txt).1 = n at *
        have HV := Lib.hid hv; clear hv hp
        replace H := Lib.hid H
        go_enter Try.func18, Try.ntmps18
        go_wp2_with fail
        go_step3
        go_wp2_with fail
        refine (L.out _).mono ?_
        rintro e _ ⟨rfl, rfl⟩
        go_wp2_with fail
        refine (X.out _).mono ?_
        rintro e _ ⟨rfl, rfl⟩
        go_wp2_with fail
        refine (D.out _).mono ?_
        rintro e _ ⟨rfl, rfl⟩
        go_wp2_with fail
        refine (H.out _).mono ?_
        rintro e w1 ⟨rfl, b1⟩
        have K2 := Blk.made b1
        have F2 := K2.four
        have d1 := below_step (alloc_one _ _) b1 (Nat.le_refl _)
        go_wp2_with fail
        rw [Exit.noGoto_ret]
        obtain ⟨⟨r0, r1, r2, r3⟩, _⟩ := ((K2.store4 (.int .i64 2) (.string (T txt)) (.int .i64 n) (.int .i64 0)).store4 (.int .i64 2) (.string (T txt)) (.int .i64 n) (.int .i64 0)).four
        exact bodyPost_ret (v := .tuple #[tkV 2 txt n 0, .int .i64 0]) (by simp [results, Try.results18, go_sem, r0, r1, r2, r3, tkV, show T [] = (⟨#[]⟩ : ByteArray) from rfl]) rfl (tokP_mk HV.out (below_set4 (below_set4 d1 (Nat.le_refl _) _ _ _ _ _ _ _ _) (Nat.le_refl _) _ _ _ _ _ _ _ _))
      · rw [if_pos hp] at hv
        rw [(num_bad hp).1, (num_bad hp).2] at H
        simp only [tkV] at H
        have HV := Lib.hid hv; clear hv hp
        replace H := Lib.hid H
        go_enter Try.func18, Try.ntmps18
        go_wp2_with fail
        go_step3
        go_wp2_with fail
        refine (L.out _).mono ?_
        rintro e _ ⟨rfl, rfl⟩
        go_wp2_with fail
        refine (X.out _).mono ?_
        rintro e _ ⟨rfl, rfl⟩
        go_wp2_with fail
        refine (D.out _).mono ?_
        rintro e _ ⟨rfl, rfl⟩
        go_wp2_with fail
        refine (H.out _).mono ?_
        rintro e w1 ⟨rfl, b1⟩
        have K2 := Blk.made b1
        have F2 := K2.four
        have d1 := below_step (alloc_one _ _) b1 (Nat.le_refl _)
        go_wp2_with fail
        go_step3
        go_wp2_with fail
        rw [Exit.noGoto_ret]
        obtain ⟨⟨r0, r1, r2, r3⟩, _⟩ := ((K2.store4 (.int .i64 2) (.string (T txt)) (.int .i64 0) (.int .i64 0)).store4 (.int .i64 0) (.string ⟨#[]⟩) (.int .i64 0) (.int .i64 0)).four
        exact bodyPost_ret (v := .tuple #[tkV 0 [] 0 0, .int .i64 12]) (by simp [results, Try.results18, go_sem, r0, r1, r2, r3, tkV, show T [] = (⟨#[]⟩ : ByteArray) from rfl]) rfl (tokP_mk HV.out (below_set4 (below_set4 d1 (Nat.le_refl _) _ _ _ _ _ _ _ _) (Nat.le_refl _) _ _ _ _ _ _ _ _))
    · have hdf : Ty.isD c = false := by simpa using hd
      rw [hdf] at D
      have hm : (c == 45 && Lx.fst Ty.isD r) = true := by unfold Lx.tokD at hD; rw [hdf] at hD; simpa using hD
      rw [hm] at M
      clear hX hL ht1 hLf hXf hD hd hdf hm
      replace L := Lib.hid L; replace X := Lib.hid X; replace D := Lib.hid D; replace M := Lib.hid M
      by_cases hp : (Ty.parN txt).2 = 0
      · rw [if_neg (by rw [hp]; decide)] at hv
        rw [(num_ok hp).1, (num_ok hp).2] at H
        simp only [tkV] at H
        generalize (Ty.parN txt).1 = n at *
        have HV := Lib.hid hv; clear hv hp
        replace H := Lib.hid H
        go_enter Try.func18, Try.ntmps18
        go_wp2_with fail
        go_step3
        go_wp2_with fail
        refine (L.out _).mono ?_
        rintro e _ ⟨rfl, rfl⟩
        go_wp2_with fail
        refine (X.out _).mono ?_
        rintro e _ ⟨rfl, rfl⟩
        go_wp2_with fail
        refine (D.out _).mono ?_
        rintro e _ ⟨rfl, rfl⟩
        go_wp2_with fail
        refine (M.out _).mono ?_
        rintro e _ ⟨rfl, rfl⟩
        go_wp2_with fail
        refine (H.out _).mono ?_
        rintro e w1 ⟨rfl, b1⟩
        have K2 := Blk.made b1
        have F2 := K2.four
        have d1 := below_step (alloc_one _ _) b1 (Nat.le_refl _)
        go_wp2_with fail
        rw [Exit.noGoto_ret]
        obtain ⟨⟨r0, r1, r2, r3⟩, _⟩ := ((K2.store4 (.int .i64 2) (.string (T txt)) (.int .i64 n) (.int .i64 0)).store4 (.int .i64 2) (.string (T txt)) (.int .i64 n) (.int .i64 0)).four
        exact bodyPost_ret (v := .tuple #[tkV 2 txt n 0, .int .i64 0]) (by simp [results, Try.results18, go_sem, r0, r1, r2, r3, tkV, show T [] = (⟨#[]⟩ : ByteArray) from rfl]) rfl (tokP_mk HV.out (below_set4 (below_set4 d1 (Nat.le_refl _) _ _ _ _ _ _ _ _) (Nat.le_refl _) _ _ _ _ _ _ _ _))
      · rw [if_pos hp] at hv
        rw [(num_bad hp).1, (num_bad hp).2] at H
        simp only [tkV] at H
        have HV := Lib.hid hv; clear hv hp
        replace H := Lib.hid H
        go_enter Try.func18, Try.ntmps18
        go_wp2_with fail
        go_step3
        go_wp2_with fail
        refine (L.out _).mono ?_
        rintro e _ ⟨rfl, rfl⟩
        go_wp2_with fail
        refine (X.out _).mono ?_
        rintro e _ ⟨rfl, rfl⟩
        go_wp2_with fail
        refine (D.out _).mono ?_
        rintro e _ ⟨rfl, rfl⟩
        go_wp2_with fail
        refine (M.out _).mono ?_
        rintro e _ ⟨rfl, rfl⟩
        go_wp2_with fail
        refine (H.out _).mono ?_
        rintro e w1 ⟨rfl, b1⟩
        have K2 := Blk.made b1
        have F2 := K2.four
        have d1 := below_step (alloc_one _ _) b1 (Nat.le_refl _)
        go_wp2_with fail
        go_step3
        go_wp2_with fail
        rw [Exit.noGoto_ret]
        obtain ⟨⟨r0, r1, r2, r3⟩, _⟩ := ((K2.store4 (.int .i64 2) (.string (T txt)) (.int .i64 0) (.int .i64 0)).store4 (.int .i64 0) (.string ⟨#[]⟩) (.int .i64 0) (.int .i64 0)).four
        exact bodyPost_ret (v := .tuple #[tkV 0 [] 0 0, .int .i64 12]) (by simp [results, Try.results18, go_sem, r0, r1, r2, r3, tkV, show T [] = (⟨#[]⟩ : ByteArray) from rfl]) rfl (tokP_mk HV.out (below_set4 (below_set4 d1 (Nat.le_refl _) _ _ _ _ _ _ _ _) (Nat.le_refl _) _ _ _ _ _ _ _ _))
  have hdf : Ty.isD c = false ∧ (c == 45 && Lx.fst Ty.isD r) = false := by
    unfold Lx.tokD at hD
    simp only [Bool.or_eq_true, not_or] at hD
    exact ⟨by simpa using hD.1, by simpa using hD.2⟩
  rw [hdf.1] at D
  rw [hdf.2] at M
  by_cases h34 : c = 34
  · subst h34
    have hv : Lx.tokC 34 r = (match Lx.qlen false r with | none => (Lx.tk0, 12) | some k => (⟨4, 34 :: r.take k, 0, 0⟩, 0)) := by unfold Lx.tokC; rw [if_neg hL, if_neg hX, if_neg hD, if_pos rfl]; cases Lx.qlen false r <;> rfl
    have H := fun w => quoted_any (34 :: r) w (by simp) (by omega)
    rw [show quoV (34 :: r) = (match Lx.qlen false r with | some k => tkV 4 (34 :: r.take k) 0 0 | none => tkV 0 [] 0 0) from rfl, show (34 :: r : List UInt8).tail = r from rfl] at H
    generalize Lx.tokC 34 r = res at *
    generalize (34 :: r : List UInt8) = s at *
    clear hX hL ht1 hLf hXf hD hdf
    replace L := Lib.hid L; replace X := Lib.hid X; replace D := Lib.hid D; replace M := Lib.hid M
    cases hq : Lx.qlen false r with
    | none =>
      rw [hq] at H hv
      simp only [tkV, Option.isSome_none, show T [] = (⟨#[]⟩ : ByteArray) from rfl] at H
      have HV := Lib.hid hv; clear hv hq
      replace H := Lib.hid H
      go_enter Try.func18, Try.ntmps18
      go_wp2_with fail
      go_step3
      go_wp2_with fail
      refine (L.out _).mono ?_
      rintro e _ ⟨rfl, rfl⟩
      go_wp2_with fail
      refine (X.out _).mono ?_
      rintro e _ ⟨rfl, rfl⟩
      go_wp2_with fail
      refine (D.out _).mono ?_
      rintro e _ ⟨rfl, rfl⟩
      go_wp2_with fail
      refine (M.out _).mono ?_
      rintro e _ ⟨rfl, rfl⟩
      go_wp2_with fail
      refine (H.out _).mono ?_
      rintro e w1 ⟨rfl, b1⟩
      have K2 := Blk.made b1
      have F2 := K2.four
      have d1 := below_step (alloc_one _ _) b1 (Nat.le_refl _)
      go_wp2_with fail
      go_step3
      go_wp2_with fail
      rw [Exit.noGoto_ret]
      obtain ⟨⟨r0, r1, r2, r3⟩, _⟩ := ((K2.store4 (.int .i64 0) (.string ⟨#[]⟩) (.int .i64 0) (.int .i64 0)).store4 (.int .i64 0) (.string ⟨#[]⟩) (.int .i64 0) (.int .i64 0)).four
      exact bodyPost_ret (v := .tuple #[tkV 0 [] 0 0, .int .i64 12]) (by simp [results, Try.results18, go_sem, r0, r1, r2, r3, tkV, show T [] = (⟨#[]⟩ : ByteArray) from rfl]) rfl (tokP_mk HV.out (below_set4 (below_set4 d1 (Nat.le_refl _) _ _ _ _ _ _ _ _) (Nat.le_refl _) _ _ _ _ _ _ _ _))
    | some k =>
      rw [hq] at H hv
      simp only [tkV, Option.isSome_some] at H
      dsimp only at hv
      generalize (34 :: r.take k : List UInt8) = txt at *
      have HV := Lib.hid hv; clear hv hq
      replace H := Lib.hid H
      go_enter Try.func18, Try.ntmps18
      go_wp2_with fail
      go_step3
      go_wp2_with fail
      refine (L.out _).mono ?_
      rintro e _ ⟨rfl, rfl⟩
      go_wp2_with fail
      refine (X.out _).mono ?_
      rintro e _ ⟨rfl, rfl⟩
      go_wp2_with fail
      refine (D.out _).mono ?_
      rintro e _ ⟨rfl, rfl⟩
      go_wp2_with fail
      refine (M.out _).mono ?_
      rintro e _ ⟨rfl, rfl⟩
      go_wp2_with fail
      refine (H.out _).mono ?_
      rintro e w1 ⟨rfl, b1⟩
      have K2 := Blk.made b1
      have F2 := K2.four
      have d1 := below_step (alloc_one _ _) b1 (Nat.le_refl _)
      go_wp2_with fail
      rw [Exit.noGoto_ret]
      obtain ⟨⟨r0, r1, r2, r3⟩, _⟩ := ((K2.store4 (.int .i64 4) (.string (T txt)) (.int .i64 0) (.int .i64 0)).store4 (.int .i64 4) (.string (T txt)) (.int .i64 0) (.int .i64 0)).four
      exact bodyPost_ret (v := .tuple #[tkV 4 txt 0 0, .int .i64 0]) (by simp [results, Try.results18, go_sem, r0, r1, r2, r3, tkV, show T [] = (⟨#[]⟩ : ByteArray) from rfl]) rfl (tokP_mk HV.out (below_set4 (below_set4 d1 (Nat.le_refl _) _ _ _ _ _ _ _ _) (Nat.le_refl _) _ _ _ _ _ _ _ _))
  have n34 := byte_ne (k := 34) h34 rfl
  by_cases h35 : c = 35
  · subst h35
    have hv : Lx.tokC 35 r = (⟨4, 35 :: r.takeWhile Lx.isH, 0, 0⟩, 0) := by unfold Lx.tokC; rw [if_neg hL, if_neg hX, if_neg hD, if_neg h34, if_pos rfl]
    have hrest := fun w => run_T_rest (35 :: r) .i64 1 1 rfl (by simp) w
    rw [show List.drop 1 (35 :: r) = r from rfl] at hrest
    have H := Lib.hid (fun w => head_hex r w (by simp only [List.length_cons] at hs; omega))
    have htl := tw_len Lx.isH r
    have hcut := fun w => run_T_head (35 :: r) .i64 (1 + ((r.takeWhile Lx.isH).length : Int)) (1 + (r.takeWhile Lx.isH).length) (by omega) (by simp only [List.length_cons]; omega) w
    rw [show (35 :: r : List UInt8).take (1 + (r.takeWhile Lx.isH).length) = 35 :: r.takeWhile Lx.isH by rw [Nat.add_comm, List.take_succ_cons, take_tw]] at hcut
    simp only [List.length_cons] at hs hT
    have hTd := T_size (r.takeWhile Lx.isH)
    generalize Lx.tokC 35 r = res at *
    generalize (35 :: r : List UInt8) = s at *
    generalize (35 :: r.takeWhile Lx.isH : List UInt8) = txt at *
    generalize r.takeWhile Lx.isH = d at *
    clear hX hL ht1 hLf hXf hD hdf n34 h34
    have HV := Lib.hid hv; clear hv
    replace L := Lib.hid L; replace X := Lib.hid X; replace D := Lib.hid D; replace M := Lib.hid M
    go_enter Try.func18, Try.ntmps18
    go_wp2_with fail
    go_step3
    go_wp2_with fail
    refine (L.out _).mono ?_
    rintro e _ ⟨rfl, rfl⟩
    go_wp2_with fail
    refine (X.out _).mono ?_
    rintro e _ ⟨rfl, rfl⟩
    go_wp2_with fail
    refine (D.out _).mono ?_
    rintro e _ ⟨rfl, rfl⟩
    go_wp2_with fail
    refine (M.out _).mono ?_
    rintro e _ ⟨rfl, rfl⟩
    go_wp2_with fail
    refine (H.out _).mono ?_
    rintro e w1 ⟨rfl, b1⟩
    have K2 := Blk.made b1
    have F2 := K2.four
    have d1 := below_step (alloc_one _ _) b1 (Nat.le_refl _)
    go_wp2_with fail
    rw [Exit.noGoto_ret]
    obtain ⟨⟨r0, r1, r2, r3⟩, _⟩ := ((K2.store4 (.int .i64 4) (.string (T txt)) (.int .i64 0) (.int .i64 0)).store4 (.int .i64 4) (.string (T txt)) (.int .i64 0) (.int .i64 0)).four
    exact bodyPost_ret (v := .tuple #[tkV 4 txt 0 0, .int .i64 0]) (by simp [results, Try.results18, go_sem, r0, r1, r2, r3, tkV, show T [] = (⟨#[]⟩ : ByteArray) from rfl]) rfl (tokP_mk HV.out (below_set4 (below_set4 d1 (Nat.le_refl _) _ _ _ _ _ _ _ _) (Nat.le_refl _) _ _ _ _ _ _ _ _))
  have n35 := byte_ne (k := 35) h35 rfl
  by_cases hM : Lx.mark c = true
  · have hv : Lx.tokC c r = (⟨5, [c], 0, 0⟩, 0) := by unfold Lx.tokC; rw [if_neg hL, if_neg hX, if_neg hD, if_neg h34, if_neg h35, if_pos hM]
    have hcut := fun w => run_T_head (c :: r) .i64 1 1 rfl (by simp) w
    rw [show List.take 1 (c :: r) = [c] from rfl] at hcut
    have hM' := hM
    unfold Lx.mark at hM'
    simp only [Bool.or_eq_true, beq_iff_eq] at hM'
    clear hX hL ht1 hLf hXf hD hdf h34 h35 hM n34 n35
    generalize Lx.tokC c r = res at *
    have HV := Lib.hid hv; clear hv
    replace L := Lib.hid L; replace X := Lib.hid X; replace D := Lib.hid D; replace M := Lib.hid M
    rcases hM' with (((rfl | rfl) | rfl) | rfl) | rfl
    all_goals
      generalize (_ :: r : List UInt8) = s at *
      go_enter Try.func18, Try.ntmps18
      go_wp2_with fail
      go_step3
      go_wp2_with fail
      refine (L.out _).mono ?_
      rintro e _ ⟨rfl, rfl⟩
      go_wp2_with fail
      refine (X.out _).mono ?_
      rintro e _ ⟨rfl, rfl⟩
      go_wp2_with fail
      refine (D.out _).mono ?_
      rintro e _ ⟨rfl, rfl⟩
      go_wp2_with fail
      refine (M.out _).mono ?_
      rintro e _ ⟨rfl, rfl⟩
      go_wp2_with fail
      rw [Exit.noGoto_ret]
      exact bodyPost_ret (v := .tuple #[tkV 5 [_] 0 0, .int .i64 0]) (by simp [results, Try.results18, go_sem, tkV, show T [] = (⟨#[]⟩ : ByteArray) from rfl]) rfl (tokP_mk HV.out (alloc_one _ _))
  have hMn : c ≠ 58 ∧ c ≠ 91 ∧ c ≠ 93 ∧ c ≠ 61 ∧ c ≠ 59 := by
    unfold Lx.mark at hM
    simp only [Bool.or_eq_true, beq_iff_eq, not_or] at hM
    exact ⟨hM.1.1.1.1, hM.1.1.1.2, hM.1.1.2, hM.1.2, hM.2⟩
  have n58 := byte_ne (k := 58) hMn.1 rfl
  have n91 := byte_ne (k := 91) hMn.2.1 rfl
  have n93 := byte_ne (k := 93) hMn.2.2.1 rfl
  have n61 := byte_ne (k := 61) hMn.2.2.2.1 rfl
  have n59 := byte_ne (k := 59) hMn.2.2.2.2 rfl
  by_cases hP : c = 46 ∧ Lx.fst (· == 46) r = true
  · have hv : Lx.tokC c r = (⟨5, [46, 46], 0, 0⟩, 0) := by unfold Lx.tokC; rw [if_neg hL, if_neg hX, if_neg hD, if_neg h34, if_neg h35, if_neg hM, if_pos hP]
    obtain ⟨rfl, hP⟩ := hP
    obtain ⟨q, rfl⟩ : ∃ q, r = 46 :: q := by
      cases r with
      | nil => cases hP
      | cons a q => exact ⟨q, by rw [show a = 46 by simpa [Lx.fst] using hP]⟩
    have hcut := fun w => run_T_head (46 :: 46 :: q) .i64 2 2 rfl (by simp) w
    rw [show List.take 2 (46 :: 46 :: q) = [46, 46] from rfl, TD] at hcut
    simp only [List.length_cons] at hs hT
    clear hX hL ht1 hLf hXf hD hdf h34 h35 hM n34 n35 hMn
    generalize Lx.tokC 46 (46 :: q) = res at *
    generalize (46 :: 46 :: q : List UInt8) = s at *
    have HV := Lib.hid hv; clear hv
    replace L := Lib.hid L; replace X := Lib.hid X; replace D := Lib.hid D; replace M := Lib.hid M
    go_enter Try.func18, Try.ntmps18
    go_wp2_with fail
    go_step3
    go_wp2_with fail
    refine (L.out _).mono ?_
    rintro e _ ⟨rfl, rfl⟩
    go_wp2_with fail
    refine (X.out _).mono ?_
    rintro e _ ⟨rfl, rfl⟩
    go_wp2_with fail
    refine (D.out _).mono ?_
    rintro e _ ⟨rfl, rfl⟩
    go_wp2_with fail
    refine (M.out _).mono ?_
    rintro e _ ⟨rfl, rfl⟩
    go_wp2_with fail
    rw [Exit.noGoto_ret]
    exact bodyPost_ret (v := .tuple #[tkV 5 [46, 46] 0 0, .int .i64 0]) (by simp [results, Try.results18, go_sem, tkV, TD]) rfl (tokP_mk HV.out (alloc_one _ _))
  have hv : Lx.tokC c r = (Lx.tk0, 11) := by unfold Lx.tokC; rw [if_neg hL, if_neg hX, if_neg hD, if_neg h34, if_neg h35, if_neg hM, if_neg hP]
  have HV := Lib.hid hv; clear hv
  generalize Lx.tokC c r = res at *
  clear hX hL ht1 hLf hXf hD hdf h34 h35 hM hMn
  replace L := Lib.hid L; replace X := Lib.hid X; replace D := Lib.hid D; replace M := Lib.hid M
  cases r with
  | nil =>
    clear hP
    simp only [List.length_cons, List.length_nil] at hs hT
    generalize ([c] : List UInt8) = s at *
    go_enter Try.func18, Try.ntmps18
    go_wp2_with fail
    refine wp_scope_jumps 0 (fun a' w' => w' = w.alloc (.cells #[.int .i64 0, .string ⟨#[]⟩, .int .i64 0, .int .i64 0] 28) ∧ ∃ u0 u1 u4 u5 u6 u7 u8 u9 u10 u11 u12 u13 u14 u15 u16 u17 u18 u19 u20 u21 u22 u23 u24 u25 u26 u27 u28 u29 u30 u31 u32 u33 u34 u35 u36 u37 u38 u39 u40 u41 u42 u43 u44 u45 u46 u47 u48 u49 u50 u51 u52 u53 u54 u55 u56 u57 u58 u59 u60 u61 u62 u63 u64 u65 u66 u67 u68 u69 u70 u71 u72 u73 u74 u75 u76 u77 u78 u79 u80 u81 : Value, a' = { tmps := #[u0, u1, (.pointer (some ⟨w.heap.size, 0, none⟩)), (.int .i64 11), u4, u5, u6, u7, u8, u9, u10, u11, u12, u13, u14, u15, u16, u17, u18, u19, u20, u21, u22, u23, u24, u25, u26, u27, u28, u29, u30, u31, u32, u33, u34, u35, u36, u37, u38, u39, u40, u41, u42, u43, u44, u45, u46, u47, u48, u49, u50, u51, u52, u53, u54, u55, u56, u57, u58, u59, u60, u61, u62, u63, u64, u65, u66, u67, u68, u69, u70, u71, u72, u73, u74, u75, u76, u77, u78, u79, u80, u81], defers := [] }) (fun _ _ => 0) rfl ?_ ?_
    · go_wp2_with fail
      refine (L.out _).mono ?_
      rintro e _ ⟨rfl, rfl⟩
      go_wp2_with fail
      refine (X.out _).mono ?_
      rintro e _ ⟨rfl, rfl⟩
      go_wp2_with fail
      refine (D.out _).mono ?_
      rintro e _ ⟨rfl, rfl⟩
      go_wp2_with fail
      refine (M.out _).mono ?_
      rintro e _ ⟨rfl, rfl⟩
      go_wp2_with fail
      go_step3
      exact ⟨rfl, rfl, _, _, _, _, _, _, _, _, _, _, _, _, _, _, _, _, _, _, _, _, _, _, _, _, _, _, _, _, _, _, _, _, _, _, _, _, _, _, _, _, _, _, _, _, _, _, _, _, _, _, _, _, _, _, _, _, _, _, _, _, _, _, _, _, _, _, _, _, _, _, _, _, _, _, _, _, _, _, _, _, rfl⟩
    · rintro a' w' ⟨rfl, u0, u1, u4, u5, u6, u7, u8, u9, u10, u11, u12, u13, u14, u15, u16, u17, u18, u19, u20, u21, u22, u23, u24, u25, u26, u27, u28, u29, u30, u31, u32, u33, u34, u35, u36, u37, u38, u39, u40, u41, u42, u43, u44, u45, u46, u47, u48, u49, u50, u51, u52, u53, u54, u55, u56, u57, u58, u59, u60, u61, u62, u63, u64, u65, u66, u67, u68, u69, u70, u71, u72, u73, u74, u75, u76, u77, u78, u79, u80, u81, rfl⟩
      go_wp2_with fail
      simp only [Exit.jump]
      exact bodyPost_ret (v := .tuple #[tkV 0 [] 0 0, .int .i64 11]) (by simp [results, Try.results18, go_sem, tkV, show T [] = (⟨#[]⟩ : ByteArray) from rfl]) rfl (tokP_mk HV.out (alloc_one _ _))
  | cons a q =>
    have hcut := fun w => run_T_head (c :: a :: q) .i64 2 2 rfl (by simp) w
    rw [show List.take 2 (c :: a :: q) = [c, a] from rfl] at hcut
    have htl := T_toList [c, a]
    have hne : (([c, a] : List UInt8) == [46, 46]) = false := by
      rw [beq_eq_false_iff_ne]
      intro e
      simp only [List.cons.injEq, and_true] at e
      exact hP ⟨e.1, by rw [e.2]; rfl⟩
    clear hP
    simp only [List.length_cons] at hs hT
    generalize (c :: a :: q : List UInt8) = s at *
    generalize ([c, a] : List UInt8) = ca at *
    go_enter Try.func18, Try.ntmps18
    go_wp2_with fail
    refine wp_scope_jumps 0 (fun a' w' => w' = w.alloc (.cells #[.int .i64 0, .string ⟨#[]⟩, .int .i64 0, .int .i64 0] 28) ∧ ∃ u0 u1 u4 u5 u6 u7 u8 u9 u10 u11 u12 u13 u14 u15 u16 u17 u18 u19 u20 u21 u22 u23 u24 u25 u26 u27 u28 u29 u30 u31 u32 u33 u34 u35 u36 u37 u38 u39 u40 u41 u42 u43 u44 u45 u46 u47 u48 u49 u50 u51 u52 u53 u54 u55 u56 u57 u58 u59 u60 u61 u62 u63 u64 u65 u66 u67 u68 u69 u70 u71 u72 u73 u74 u75 u76 u77 u78 u79 u80 u81 : Value, a' = { tmps := #[u0, u1, (.pointer (some ⟨w.heap.size, 0, none⟩)), (.int .i64 11), u4, u5, u6, u7, u8, u9, u10, u11, u12, u13, u14, u15, u16, u17, u18, u19, u20, u21, u22, u23, u24, u25, u26, u27, u28, u29, u30, u31, u32, u33, u34, u35, u36, u37, u38, u39, u40, u41, u42, u43, u44, u45, u46, u47, u48, u49, u50, u51, u52, u53, u54, u55, u56, u57, u58, u59, u60, u61, u62, u63, u64, u65, u66, u67, u68, u69, u70, u71, u72, u73, u74, u75, u76, u77, u78, u79, u80, u81], defers := [] }) (fun _ _ => 0) rfl ?_ ?_
    · go_wp2_with fail
      refine (L.out _).mono ?_
      rintro e _ ⟨rfl, rfl⟩
      go_wp2_with fail
      refine (X.out _).mono ?_
      rintro e _ ⟨rfl, rfl⟩
      go_wp2_with fail
      refine (D.out _).mono ?_
      rintro e _ ⟨rfl, rfl⟩
      go_wp2_with fail
      refine (M.out _).mono ?_
      rintro e _ ⟨rfl, rfl⟩
      go_wp2_with fail
      go_step3
      exact ⟨rfl, rfl, _, _, _, _, _, _, _, _, _, _, _, _, _, _, _, _, _, _, _, _, _, _, _, _, _, _, _, _, _, _, _, _, _, _, _, _, _, _, _, _, _, _, _, _, _, _, _, _, _, _, _, _, _, _, _, _, _, _, _, _, _, _, _, _, _, _, _, _, _, _, _, _, _, _, _, _, _, _, _, _, rfl⟩
    · rintro a' w' ⟨rfl, u0, u1, u4, u5, u6, u7, u8, u9, u10, u11, u12, u13, u14, u15, u16, u17, u18, u19, u20, u21, u22, u23, u24, u25, u26, u27, u28, u29, u30, u31, u32, u33, u34, u35, u36, u37, u38, u39, u40, u41, u42, u43, u44, u45, u46, u47, u48, u49, u50, u51, u52, u53, u54, u55, u56, u57, u58, u59, u60, u61, u62, u63, u64, u65, u66, u67, u68, u69, u70, u71, u72, u73, u74, u75, u76, u77, u78, u79, u80, u81, rfl⟩
      go_wp2_with fail
      simp only [Exit.jump]
      exact bodyPost_ret (v := .tuple #[tkV 0 [] 0 0, .int .i64 11]) (by simp [results, Try.results18, go_sem, tkV, show T [] = (⟨#[]⟩ : ByteArray) from rfl]) rfl (tokP_mk HV.out (alloc_one _ _))
end Go.Proofs.Ytmolmpgampmolaa
/-
  Walk: Scan of package lex.
  Conditions: none.
-/
namespace Go.Proofs.Ytmolmpgampmolaa
set_option linter.unusedVariables false
set_option linter.unusedSimpArgs false
open Go.RowKit
set_option maxRecDepth 100000 in
set_option maxHeartbeats 4000000 in
theorem Scan_any (s : List UInt8) (w : World) (hs : s.length ≤ 1000000) : Calls Try.prog 8 #[.string (T s)] w (ScanPost (Lx.scanS s) w) := by
  have hT := T_size s
  by_cases hb : 8192 < s.length
  · have hv : Lx.scanS s = ([], 3, 0) := if_pos hb
    have HV := Lib.hid hv; clear hv
    go_enter Try.func8, Try.ntmps8
    go_wp2_with fail
    go_ret3
    exact scan_none HV.out rfl (Below.refl _ _)
  have hs8 : s.length ≤ 8192 := by omega
  have hv : Lx.scanS s = Lx.glue [] (Lx.scanF (s.length + 1) s (Lx.pos s 0)) := by
    unfold Lx.scanS
    rw [if_neg hb, Lx.glue_nil]
  have hp0 := Lx.pos_le s 0
  have hd0 := Lx.pos_drop s 0
  rw [List.drop_zero] at hd0
  have H0 := Lib.hid (pass_any s w hs)
  rw [← hd0] at H0
  generalize hq : Lx.pos s 0 = q at *
  have HV : Hid (Lx.scanS s = Lx.glue [] (Lx.scanF (s.length + 1) s q)) := Lib.hid hv
  clear hv hd0 hb hq
  go_enter Try.func8, Try.ntmps8
  go_wp2_with fail
  refine (H0.out).mono ?_
  rintro e w1 ⟨rfl, b1⟩
  clear H0
  go_wp2_with fail
  go_loopw [5, 6] (fun v u wr => ∃ (k p : Nat) (ts : List Lx.Tk) (A1 : Option Addr) (c1 : Nat), v = .slice A1 ts.length c1 ∧ u = .string (T (s.drop p)) ∧ p ≤ s.length ∧ s.length < p + k ∧ ts.length ≤ p ∧ Hid (Lx.scanS s = Lx.glue ts (Lx.scanF k s p)) ∧ OTk wr w.heap.size A1 ts.length c1 ts ∧ Below w.heap.size w wr) (fun _ u _ => strLen u)
  case atStart => exact ⟨s.length + 1, q, [], none, 0, rfl, rfl, hp0, by omega, by simp, HV, OTk.none_ _ _, b1⟩
  case round =>
    obtain ⟨k, p, ts, A1, c1, rfl, rfl, hp, hk, hl, HG, os, bb⟩ := hrel
    have hlen : (s.drop p).length = s.length - p := List.length_drop ..
    cases hd : s.drop p with
    | nil =>
      rw [hd] at hlen
      have hz : s.length ≤ p := by simp at hlen; omega
      have HE := Lib.hid (HG.out.trans (Lx.glue_end ts hz))
      have h0 : T [] = (⟨#[]⟩ : ByteArray) := rfl
      clear hd HG hz hlen
      go_wp2_with fail
      go_ret3
      exact scan_some HE.out rfl os bb
    | cons c r =>
      rw [hd] at hlen
      have hplt : p < s.length := by simp at hlen; omega
      have N := next_any c r wr (by omega)
      have htl := T_toList (c :: r)
      have hne : ((c :: r : List UInt8) == []) = false := rfl
      have hT2 := T_size (c :: r)
      cases ht : Lx.tok (c :: r) with
      | mk t x =>
      rw [ht] at N
      obtain ⟨kd, tx, n, pl⟩ := t
      have N' : Calls Try.prog 18 #[.string (T (c :: r))] wr fun e w' => e = .returned (.tuple #[.agg #[.int .i64 kd, .string (T tx), .int .i64 n, .int .i64 0], .int .i64 x]) ∧ Below wr.heap.size wr w' := N
      clear N
      have N := N'
      clear N'
      rw [← hd] at ht
      by_cases hx : x = 0
      · subst hx
        obtain ⟨j, g1, g2, g3, g4⟩ := Lx.glue_step ts hplt hk ht
        dsimp only at g1 g2 g3 g4
        have htlen := Lx.tok_len (s := s.drop p) (by rw [ht])
        rw [ht, hd] at htlen
        dsimp only at htlen
        have hTx := T_size tx
        have hcut := fun w => run_T_rest (c :: r) .i64 (tx.length : Int) tx.length rfl htlen.2 w
        have hpd := Lx.pos_drop s (p + tx.length)
        have hdd : (c :: r).drop tx.length = s.drop (p + tx.length) := by rw [← hd, List.drop_drop]
        rw [hdd] at hcut
        have P := fun w => pass_any (s.drop (p + tx.length)) w (by rw [List.length_drop]; omega)
        rw [← hpd] at P
        have HG2 := Lib.hid (HG.out.trans g1)
        have HT := Lib.hid ht
        generalize Lx.pos s (p + tx.length) = q2 at *
        generalize s.drop (p + tx.length) = l2 at *
        generalize (c :: r : List UInt8) = l at *
        replace N := Lib.hid N; replace P := Lib.hid P
        have hpl : (s.length : Int) - (l.length : Int) = (p : Int) := by omega
        have HPL := Lib.hid hpl
        have HLEN := Lib.hid hlen
        have hll : l.length ≤ s.length := by omega
        clear hlen hpl hpd hdd g1 ht hd HG
        go_wp2_with fail
        refine (N.out).mono ?_
        rintro e w2 ⟨rfl, b2⟩
        have d2 := below_step bb b2 (Nat.le_refl _)
        have os2 := os.below b2
        clear N
        have hts1 : (ts.length + 1) * 40 ≤ 140737488355328 := by omega
        have hts2 : ts.length + 1 ≤ 9223372036854775807 := by omega
        have d3 := d2.alloc d2.size (.cells #[.int .i64 kd, .string (T tx), .int .i64 n, .int .i64 ((s.length : Int) - (l.length : Int))] 28)
        have os3 := os2.below (alloc_one w2 (.cells #[.int .i64 kd, .string (T tx), .int .i64 n, .int .i64 ((s.length : Int) - (l.length : Int))] 28))
        have K3 := Blk.new w2 28 #[.int .i64 kd, .string (T tx), .int .i64 n, .int .i64 ((s.length : Int) - (l.length : Int))]
        have hlt2 := os2.lt
        have HLT2 := Lib.hid hlt2
        clear os2 os hlt2
        go_wp2_with (at_builtin; refine wpList_apps ettk (fun _ => TkR) rfl (.tmp 33) (.tmp 35) rfl rfl rfl (by simp) w.heap.size os3 ⟨kd, tx, n, p⟩ (tkR_mk HPL.out) rfl (tok_oneCell _ _ _ _) hts1 hts2 d3.size (fun _ _ _ _ _ _ _ _ _ h => h) ?_; intro A3 c3 w3 os4 b4 g4 _; have K4 := (K3.grown g4 (fun e => by have := (HLT2.out _ e.symm).2; omega)).four; have d4 := d2.trans ((alloc_one w2 (.cells #[.int .i64 kd, .string (T tx), .int .i64 n, .int .i64 ((s.length : Int) - (l.length : Int))] 28)).mono d2.size |>.trans b4))
        refine (P.out _).mono ?_
        rintro e w5 ⟨rfl, b5⟩
        have d5 := below_step d4 b5 (Nat.le_refl _)
        have os5 := OTk.below os4 b5
        go_wp2_with fail
        go_roundw
        case rel => exact ⟨j, q2, ts ++ [⟨kd, tx, n, p⟩], A3, c3, by rw [List.length_append]; rfl, rfl, g3, g2, by rw [List.length_append]; simp; omega, HG2, by rw [List.length_append]; exact os5, d5⟩
        case measure =>
          have := HLEN.out
          simp [strLen, T_size]
          omega
      · have HE := Lib.hid (HG.out.trans (Lx.glue_bad ts hplt hk ht hx))
        have hx1 : (x != 0) = true := by simpa using hx
        have HPL : Hid ((s.length : Int) - ((c :: r).length : Int) = (p : Int)) := Lib.hid (by omega)
        have hll : (c :: r).length ≤ s.length := by omega
        have hlv : s.length - (c :: r).length < s.length - 0 := by omega
        clear hlv hlen
        generalize (c :: r : List UInt8) = l at *
        replace N := Lib.hid N
        clear ht hd HG hx
        go_wp2_with fail
        refine (N.out).mono ?_
        rintro e w2 ⟨rfl, b2⟩
        have d2 := below_step bb b2 (Nat.le_refl _)
        clear N
        go_wp2_with fail
        go_ret3
        exact scan_none HE.out HPL.out (d2.alloc d2.size _)
end Go.Proofs.Ytmolmpgampmolaa
