/-
  Walks: types.raw, Parse, the reference's Parse.
  Conditions: none.
-/
import Derived.Test.YtnppihlalhaldaaTypChk
import Derived.Test.YtnppihlalhaldaaTypRPar
import Derived.Test.YtnppihlalhaldaaTypUnw
import Derived.Test.YtnppihlalhaldaaOctHexU
namespace Go.Proofs.Ytnppihlalhaldaa
set_option linter.unusedVariables false
set_option linter.unusedSimpArgs false
open Go.RowKit
theorem UnhexT (s : List UInt8) (w : World) (hn : s.length ≤ 200000) : Calls Try.prog 72 #[.string (T s)] w (BP (Oct.unhexS s) w) := Unhex_any s w hn
theorem RUnhexT (s : List UInt8) (w : World) (hn : s.length ≤ 200000) : Calls Try.prog 35 #[.string (T s)] w (BP (Oct.unhexS s) w) := RUnhex_any s w hn
theorem unhex_bad {s : List UInt8} (h : (Oct.unhexS s).2 ≠ 0) : Oct.unhexS s = ([], 4) := by
  unfold Oct.unhexS at *
  split
  · rename_i h1; rw [h1] at h; exact absurd rfl h
  · rfl
theorem raw_nine {s : List UInt8} : Ty.rawS 9 s = (match Ty.unq s with | some b => (b, 0) | none => ([], 4)) := by
  unfold Ty.rawS
  rw [if_pos rfl]
  cases Ty.unq s <;> rfl
theorem raw_no {t : Int} {s : List UInt8} (ht : t ≠ 9) (h : s.getD 0 0 ≠ 35 ∨ s = []) : Ty.rawS t s = ([], 4) := by
  unfold Ty.rawS
  rw [if_neg ht, if_neg]
  intro h1
  cases s with
  | nil => cases h1
  | cons a r =>
    simp at h1
    rcases h with h | h
    · exact h h1
    · cases h
theorem raw_hex {t : Int} {r : List UInt8} (ht : t ≠ 9) : Ty.rawS t (35 :: r) = Oct.unhexS r := by
  unfold Ty.rawS
  rw [if_neg ht, if_pos (show (35 :: r : List UInt8).head? = some 35 from rfl)]
  rfl
set_option maxRecDepth 100000 in
set_option maxHeartbeats 8000000 in
theorem raw_any (t : Int) (s : List UInt8) (w : World) (hs : s.length ≤ 100000) : Calls Try.prog 55 #[.int .i64 t, .string (T s)] w (BP (Ty.rawS t s) w) := by
  have hT := T_toList s
  by_cases ht : t = 9
  · subst ht
    have hv := raw_nine (s := s)
    have U := Lib.hid (unquote_any s w (by omega))
    generalize Ty.rawS 9 s = v at *
    generalize Ty.unq s = o at *
    have HV := Lib.hid hv
    clear hv
    go_enter Try.func55, Try.ntmps55
    go_wp2_with fail
    refine (U.out).mono ?_
    rintro e w1 ⟨A1, n1, c1, b1, hm⟩
    cases o with
    | none =>
      dsimp only at hm
      subst hm
      go_wp2_with fail
      go_ret2
      exact bp_bad HV.out b1
    | some b =>
      dsimp only at hm
      obtain ⟨rfl, ob⟩ := hm
      go_wp2_with fail
      go_ret2
      exact bp_ok HV.out ob.rb.len ob b1
  · have ht1 : (t == 9) = false := by rw [beq_eq_false_iff_ne]; exact ht
    cases s with
    | nil =>
      have HV := Lib.hid (raw_no (s := []) ht (.inr rfl))
      clear ht
      go_enter Try.func55, Try.ntmps55
      go_wp2_with fail
      go_ret2
      exact bp_bad HV.out (Below.refl _ _)
    | cons a r =>
      have hat := fun w => run_T_at (a :: r) .i64 0 0 rfl (by simp) w
      rw [show (a :: r).getD 0 0 = a from rfl] at hat
      have hne : (a :: r).isEmpty = false := rfl
      by_cases ha : a = 35
      · subst ha
        have HV := Lib.hid (raw_hex (r := r) ht)
        have hcut := fun w => run_T_rest (35 :: r) .i64 1 1 rfl (by simp) w
        rw [show List.drop 1 (35 :: r) = r from rfl] at hcut
        have U := Lib.hid (UnhexT r w (by simp at hs; omega))
        have e1 : (((35 : UInt8).toNat : Int) != 35) = false := rfl
        generalize hsr : (35 :: r : List UInt8) = s at *
        have HSR := Lib.hid hsr
        clear ht hsr
        go_enter Try.func55, Try.ntmps55
        go_wp2_with fail
        refine (U.out).mono ?_
        rintro e w1 ⟨A1, c1, rfl, o1, b1⟩
        go_wp2_with fail
        go_ret2
        exact bp_ok (by rw [HV.out]) rfl o1 b1
      · have HV := Lib.hid (raw_no (s := a :: r) ht (.inl ha))
        have e1 : ((a.toNat : Int) != 35) = true := by
          rw [bne_iff_ne]
          intro h
          exact ha (UInt8.toNat_inj.1 (by have : (35 : UInt8).toNat = 35 := rfl; omega))
        generalize (a :: r : List UInt8) = s at *
        clear ht ha
        go_enter Try.func55, Try.ntmps55
        go_wp2_with fail
        go_ret2
        exact bp_bad HV.out (Below.refl _ _)
theorem parse_val (t : Int) (s : List UInt8) : Ty.parseS t s = if (Ty.kd t).name = [] then ([], 15) else if 0 < (Ty.kd t).bits then (if (Ty.parN s).2 ≠ 0 then ([], (Ty.parN s).2) else Ty.encS t (Ty.parN s).1)
  else if (Ty.rawS t s).2 ≠ 0 then ([], (Ty.rawS t s).2) else if Ty.checkS t 256 (Ty.rawS t s).1 ≠ 0 then ([], Ty.checkS t 256 (Ty.rawS t s).1) else ((Ty.rawS t s).1, 0) := rfl
theorem par_range2 (s : List UInt8) : (-9223372036854775808 ≤ (Ty.parN s).1 ∧ (Ty.parN s).1 ≤ 9223372036854775807) ∧ ((Ty.parN s).2 = 0 ∨ (Ty.parN s).2 = 4 ∨ (Ty.parN s).2 = 9) := by
  unfold Ty.parN
  split
  · exact ⟨by decide, .inr (.inl rfl)⟩
  · split
    · exact ⟨by decide, .inr (.inr rfl)⟩
    · rename_i h
      refine ⟨?_, .inl rfl⟩
      split
      · dsimp only; omega
      · rename_i hm
        have hm2 : Ty.minus s = false := by simpa using hm
        have : ¬ (Ty.valD (Ty.rest s) = 9223372036854775808) := fun e => h (.inr ⟨e, hm2⟩)
        dsimp only
        omega
set_option maxRecDepth 100000 in
set_option maxHeartbeats 8000000 in
theorem Parse_anyT (t : Int) (s : List UInt8) (w : World) (hs : s.length ≤ 100000) : Calls Try.prog 40 #[.int .i64 t, .string (T s)] w (BP (Ty.parseS t s) w) := by
  have hv := parse_val t s
  have C1 := TKnown_any t w
  have C2 := fun w => TBits_any t w
  have C3 := fun w => number_any s w (by omega)
  have C4 := fun w => raw_any t s w hs
  obtain ⟨⟨p1, p2⟩, p3⟩ := par_range2 s
  have C5 := fun w => Encode_any t (Ty.parN s).1 w p1 p2
  have C6 := fun (A : Option Addr) (n c B : Nat) (w : World) (hb : RB w B A n c (Ty.rawS t s).1) (hB : B ≤ w.heap.size) => Check_any t 256 w hb hB
  unfold knownB at C1
  unfold parRes at C3
  generalize Ty.parN s = pn at *
  obtain ⟨pv, pe⟩ := pn
  dsimp only at hv C3 C5 p1 p2 p3
  generalize Ty.parseS t s = v at *
  generalize Ty.encS t pv = en at *
  generalize Ty.rawS t s = rw_ at *
  obtain ⟨rb, re⟩ := rw_
  dsimp only at hv C6
  generalize Ty.checkS t 256 rb = ck at *
  replace C2 := Lib.hid C2; replace C3 := Lib.hid C3; replace C4 := Lib.hid C4; replace C5 := Lib.hid C5
  have C6' := Lib.hid C6
  clear C6 hs
  by_cases hnm : (Ty.kd t).name = []
  · rw [if_pos hnm] at hv
    rw [hnm] at C1
    simp only [List.isEmpty_nil, Bool.not_true] at C1
    replace C1 := Lib.hid C1
    have HV := Lib.hid hv
    clear hv hnm p3
    go_enter Try.func40, Try.ntmps40
    go_wp2_with fail
    refine (C1.out).mono ?_
    rintro e w1 ⟨rfl, b1⟩
    go_wp2_with fail
    go_ret2
    exact bp_bad HV.out b1
  · rw [if_neg hnm] at hv
    have h1 : (Ty.kd t).name.isEmpty = false := by simpa using hnm
    rw [h1, Bool.not_false] at C1
    replace C1 := Lib.hid C1
    clear hnm h1
    generalize (Ty.kd t).bits = bt at *
    by_cases hbt : 0 < bt
    · rw [if_pos hbt] at hv
      by_cases hpe : pe = 0
      · subst hpe
        rw [if_neg (by simp)] at hv
        have HV := Lib.hid hv
        clear hv p3
        go_enter Try.func40, Try.ntmps40
        go_wp2_with fail
        refine (C1.out).mono ?_
        rintro e w1 ⟨rfl, b1⟩
        go_wp2_with fail
        refine (C2.out _).mono ?_
        rintro e w2 ⟨rfl, b2⟩
        have d2 := below_step b1 b2 (Nat.le_refl _)
        go_wp2_with fail
        refine (C3.out _).mono ?_
        rintro e _ ⟨rfl, rfl⟩
        go_wp2_with fail
        refine (C5.out _).mono ?_
        rintro e w3 ⟨A3, c3, rfl, o3, b3⟩
        go_wp2_with fail
        go_ret2
        exact bp_ok (by rw [HV.out]) rfl (o3.more d2.size) (below_step d2 b3 (Nat.le_refl _))
      · rw [if_pos hpe] at hv
        have HV := Lib.hid hv
        have hx : (pe != 0) = true := by simpa using hpe
        clear hv p3 hpe
        go_enter Try.func40, Try.ntmps40
        go_wp2_with fail
        refine (C1.out).mono ?_
        rintro e w1 ⟨rfl, b1⟩
        go_wp2_with fail
        refine (C2.out _).mono ?_
        rintro e w2 ⟨rfl, b2⟩
        have d2 := below_step b1 b2 (Nat.le_refl _)
        go_wp2_with fail
        refine (C3.out _).mono ?_
        rintro e _ ⟨rfl, rfl⟩
        go_wp2_with fail
        go_ret2
        exact bp_bad HV.out d2
    · rw [if_neg hbt] at hv
      obtain rfl : bt = 0 := by omega
      clear hbt p3
      by_cases hre : re = 0
      · subst hre
        rw [if_neg (by simp)] at hv
        by_cases hck : ck = 0
        · subst hck
          rw [if_neg (by simp)] at hv
          have HV := Lib.hid hv
          clear hv
          go_enter Try.func40, Try.ntmps40
          go_wp2_with fail
          refine (C1.out).mono ?_
          rintro e w1 ⟨rfl, b1⟩
          go_wp2_with fail
          refine (C2.out _).mono ?_
          rintro e w2 ⟨rfl, b2⟩
          have d2 := below_step b1 b2 (Nat.le_refl _)
          go_wp2_with fail
          refine (C4.out _).mono ?_
          rintro e w3 ⟨A3, c3, rfl, o3, b3⟩
          dsimp only at o3
          have d3 := below_step d2 b3 (Nat.le_refl _)
          have C7 := Lib.hid (C6'.out _ _ _ _ w3 o3.rb (Nat.le_refl _))
          go_wp2_with fail
          refine (C7.out).mono ?_
          rintro e w4 ⟨rfl, b4⟩
          go_wp2_with fail
          go_ret2
          exact bp_ok HV.out rfl ((o3.below b4).more d2.size) (below_step d3 b4 (Nat.le_refl _))
        · rw [if_pos hck] at hv
          have HV := Lib.hid hv
          have hx : (ck != 0) = true := by simpa using hck
          clear hv hck
          go_enter Try.func40, Try.ntmps40
          go_wp2_with fail
          refine (C1.out).mono ?_
          rintro e w1 ⟨rfl, b1⟩
          go_wp2_with fail
          refine (C2.out _).mono ?_
          rintro e w2 ⟨rfl, b2⟩
          have d2 := below_step b1 b2 (Nat.le_refl _)
          go_wp2_with fail
          refine (C4.out _).mono ?_
          rintro e w3 ⟨A3, c3, rfl, o3, b3⟩
          dsimp only at o3
          have d3 := below_step d2 b3 (Nat.le_refl _)
          have C7 := Lib.hid (C6'.out _ _ _ _ w3 o3.rb (Nat.le_refl _))
          clear o3
          go_wp2_with fail
          refine (C7.out).mono ?_
          rintro e w4 ⟨rfl, b4⟩
          go_wp2_with fail
          go_ret2
          exact bp_bad HV.out (below_step d3 b4 (Nat.le_refl _))
      · rw [if_pos hre] at hv
        have HV := Lib.hid hv
        have hx : (re != 0) = true := by simpa using hre
        have hx2 : (re == 0) = false := by simpa using hre
        clear hv hre
        go_enter Try.func40, Try.ntmps40
        go_wp2_with fail
        refine (C1.out).mono ?_
        rintro e w1 ⟨rfl, b1⟩
        go_wp2_with fail
        refine (C2.out _).mono ?_
        rintro e w2 ⟨rfl, b2⟩
        have d2 := below_step b1 b2 (Nat.le_refl _)
        go_wp2_with fail
        refine (C4.out _).mono ?_
        rintro e w3 ⟨A3, c3, rfl, o3, b3⟩
        have d3 := below_step d2 b3 (Nat.le_refl _)
        clear o3
        go_wp2_with fail
        go_ret2
        exact bp_bad HV.out d3
end Go.Proofs.Ytnppihlalhaldaa
