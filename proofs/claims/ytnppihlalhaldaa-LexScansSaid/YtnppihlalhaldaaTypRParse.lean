/-
  Walk: the reference's Parse.
  Conditions: none.
-/
import Derived.Test.YtnppihlalhaldaaTypParse
namespace Go.Proofs.Ytnppihlalhaldaa
set_option linter.unusedVariables false
set_option linter.unusedSimpArgs false
open Go.RowKit
set_option maxRecDepth 100000 in
set_option maxHeartbeats 8000000 in
theorem RParse_anyT (t : Int) (s : List UInt8) (w : World) (hs : s.length ≤ 100000) : Calls Try.prog 37 #[.int .i64 t, .string (T s)] w (BP (Ty.parseS t s) w) := by
  have hv := parse_val t s
  have C1 := RKnown_any t w
  have C2 := RTBits_any t w
  have C3 := rnumber_any s w (by omega)
  obtain ⟨⟨p1, p2⟩, p3⟩ := par_range2 s
  have C5 := fun w => REncode_any t (Ty.parN s).1 w p1 p2
  have C6 := fun (A : Option Addr) (n c B : Nat) (w : World) (hb : RB w B A n c (Ty.rawS t s).1) => RCheckT_any t 256 w hb
  unfold knownB at C1
  unfold parRes rparN at C3
  generalize hpn : Ty.parN s = pn at *
  obtain ⟨pv, pe⟩ := pn
  dsimp only at hv C3 C5 p1 p2 p3
  generalize Ty.parseS t s = v at *
  generalize Ty.encS t pv = en at *
  clear hpn
  have HT := Lib.hid (T_size s)
  by_cases hnm : (Ty.kd t).name = []
  · rw [if_pos hnm] at hv
    rw [hnm] at C1
    simp only [List.isEmpty_nil, Bool.not_true] at C1
    replace C1 := Lib.hid C1
    have HV := Lib.hid hv
    clear hv hnm p3 C3 C2 C5 C6
    go_enter Try.func37, Try.ntmps37
    go_wp2_with fail
    refine (C1.out).mono ?_
    rintro e _ ⟨rfl, rfl⟩
    go_wp2_with fail
    go_ret2
    exact bp_bad HV.out (Below.refl _ _)
  · rw [if_neg hnm] at hv
    have h1 : (Ty.kd t).name.isEmpty = false := by simpa using hnm
    rw [h1, Bool.not_false] at C1
    replace C1 := Lib.hid C1
    clear hnm h1
    generalize (Ty.kd t).bits = bt at *
    replace C2 := Lib.hid C2; replace C5 := Lib.hid C5; replace C6 := Lib.hid C6
    by_cases hbt : 0 < bt
    · rw [if_pos hbt] at hv
      clear C6
      rcases p3 with rfl | rfl | rfl
      · rw [if_neg (by simp)] at hv
        rw [if_neg (by decide), if_neg (by decide)] at C3
        replace C3 := Lib.hid C3
        have HV := Lib.hid hv
        clear hv
        go_enter Try.func37, Try.ntmps37
        go_wp2_with fail
        refine (C1.out).mono ?_
        rintro e _ ⟨rfl, rfl⟩
        go_wp2_with fail
        refine (C2.out).mono ?_
        rintro e _ ⟨rfl, rfl⟩
        go_wp2_with fail
        refine (C3.out).mono ?_
        rintro e _ ⟨rfl, rfl⟩
        go_wp2_with fail
        refine (C5.out _).mono ?_
        rintro e w3 ⟨A3, c3, rfl, o3, b3⟩
        go_wp2_with fail
        go_ret2
        exact bp_ok (by rw [HV.out]) rfl o3 b3
      · rw [if_pos (by simp)] at hv
        rw [if_pos rfl] at C3
        replace C3 := Lib.hid C3
        have HV := Lib.hid hv
        clear hv
        go_enter Try.func37, Try.ntmps37
        go_wp2_with fail
        refine (C1.out).mono ?_
        rintro e _ ⟨rfl, rfl⟩
        go_wp2_with fail
        refine (C2.out).mono ?_
        rintro e _ ⟨rfl, rfl⟩
        go_wp2_with fail
        refine (C3.out).mono ?_
        rintro e _ ⟨rfl, rfl⟩
        go_wp2_with fail
        go_ret2
        exact bp_bad HV.out (Below.refl _ _)
      · rw [if_pos (by simp)] at hv
        rw [if_neg (by decide), if_pos rfl] at C3
        replace C3 := Lib.hid C3
        have HV := Lib.hid hv
        clear hv
        go_enter Try.func37, Try.ntmps37
        go_wp2_with fail
        refine (C1.out).mono ?_
        rintro e _ ⟨rfl, rfl⟩
        go_wp2_with fail
        refine (C2.out).mono ?_
        rintro e _ ⟨rfl, rfl⟩
        go_wp2_with fail
        refine (C3.out).mono ?_
        rintro e _ ⟨rfl, rfl⟩
        go_wp2_with fail
        go_ret2
        exact bp_bad HV.out (Below.refl _ _)
    · rw [if_neg hbt] at hv
      obtain rfl : bt = 0 := by omega
      clear hbt p3 C3 C5
      by_cases ht : t = 9
      · subst ht
        have hraw := raw_nine (s := s)
        have U := Lib.hid (rtext_any s w (by omega))
        generalize Ty.unq s = o at *
        cases o with
        | none =>
          dsimp only at hraw
          rw [hraw] at hv
          rw [if_pos (by simp)] at hv
          have HV := Lib.hid hv
          clear hv hraw C6
          go_enter Try.func37, Try.ntmps37
          go_wp2_with fail
          refine (C1.out).mono ?_
          rintro e _ ⟨rfl, rfl⟩
          go_wp2_with fail
          refine (C2.out).mono ?_
          rintro e _ ⟨rfl, rfl⟩
          go_wp2_with fail
          refine (U.out).mono ?_
          rintro e w1 ⟨A1, n1, c1, b1, hm⟩
          dsimp only at hm
          subst hm
          go_wp2_with fail
          go_ret2
          exact bp_bad HV.out b1
        | some b =>
          dsimp only at hraw
          rw [hraw] at hv C6
          dsimp only at hv C6
          rw [if_neg (by simp)] at hv
          generalize Ty.checkS 9 256 b = ck at *
          clear hraw
          by_cases hck : ck = 0
          · subst hck
            rw [if_neg (by simp)] at hv
            have HV := Lib.hid hv
            clear hv
            go_enter Try.func37, Try.ntmps37
            go_wp2_with fail
            refine (C1.out).mono ?_
            rintro e _ ⟨rfl, rfl⟩
            go_wp2_with fail
            refine (C2.out).mono ?_
            rintro e _ ⟨rfl, rfl⟩
            go_wp2_with fail
            refine (U.out).mono ?_
            rintro e w1 ⟨A1, n1, c1, b1, hm⟩
            dsimp only at hm
            obtain ⟨rfl, ob⟩ := hm
            have C7 := Lib.hid (C6.out _ _ _ _ w1 ob.rb)
            go_wp2_with fail
            refine (C7.out).mono ?_
            rintro e _ ⟨rfl, rfl⟩
            go_wp2_with fail
            go_ret2
            exact bp_ok HV.out ob.rb.len ob b1
          · rw [if_pos hck] at hv
            have HV := Lib.hid hv
            have hx : (ck != 0) = true := by simpa using hck
            clear hv hck
            go_enter Try.func37, Try.ntmps37
            go_wp2_with fail
            refine (C1.out).mono ?_
            rintro e _ ⟨rfl, rfl⟩
            go_wp2_with fail
            refine (C2.out).mono ?_
            rintro e _ ⟨rfl, rfl⟩
            go_wp2_with fail
            refine (U.out).mono ?_
            rintro e w1 ⟨A1, n1, c1, b1, hm⟩
            dsimp only at hm
            obtain ⟨rfl, ob⟩ := hm
            have C7 := Lib.hid (C6.out _ _ _ _ w1 ob.rb)
            clear ob
            go_wp2_with fail
            refine (C7.out).mono ?_
            rintro e _ ⟨rfl, rfl⟩
            go_wp2_with fail
            go_ret2
            exact bp_bad HV.out b1
      · have ht1 : (t == 9) = false := by rw [beq_eq_false_iff_ne]; exact ht
        cases s with
        | nil =>
          rw [raw_no (s := []) ht (.inr rfl), if_pos (by simp)] at hv
          have HV := Lib.hid hv
          have hT : (T []).size = 0 := rfl
          clear ht hv C6
          go_enter Try.func37, Try.ntmps37
          go_wp2_with fail
          refine (C1.out).mono ?_
          rintro e _ ⟨rfl, rfl⟩
          go_wp2_with fail
          refine (C2.out).mono ?_
          rintro e _ ⟨rfl, rfl⟩
          go_wp2_with fail
          go_ret2
          exact bp_bad HV.out (Below.refl _ _)
        | cons a r =>
          have hat := fun w => run_T_at (a :: r) .i64 0 0 rfl (by simp) w
          rw [show (a :: r).getD 0 0 = a from rfl] at hat
          have hpos : 1 ≤ (a :: r).length := by simp
          have hT := HT.out
          by_cases ha : a = 35
          · subst ha
            rw [raw_hex (r := r) ht] at hv C6
            have hcut := fun w => run_T_rest (35 :: r) .i64 1 1 rfl (by simp) w
            rw [show List.drop 1 (35 :: r) = r from rfl] at hcut
            have U := RUnhexT r w (by simp at hs; omega)
            have hb4 := unhex_bad (s := r)
            have e1 : (((35 : UInt8).toNat : Int) != 35) = false := rfl
            generalize Oct.unhexS r = uh at *
            obtain ⟨ub, ue⟩ := uh
            dsimp only at hv hb4
            have C6 := Lib.hid C6.out
            dsimp only at C6
            generalize (35 :: r : List UInt8) = s at *
            generalize Ty.checkS t 256 ub = ck at *
            replace U := Lib.hid U
            clear ht
            by_cases hue : ue = 0
            · subst hue
              rw [if_neg (by simp)] at hv
              clear hb4
              by_cases hck : ck = 0
              · subst hck
                rw [if_neg (by simp)] at hv
                have HV := Lib.hid hv
                clear hv
                go_enter Try.func37, Try.ntmps37
                go_wp2_with fail
                refine (C1.out).mono ?_
                rintro e _ ⟨rfl, rfl⟩
                go_wp2_with fail
                refine (C2.out).mono ?_
                rintro e _ ⟨rfl, rfl⟩
                go_wp2_with fail
                refine (U.out).mono ?_
                rintro e w1 ⟨A1, c1, rfl, ob, b1⟩
                dsimp only at ob
                have C7 := Lib.hid (C6.out _ _ _ _ w1 ob.rb)
                go_wp2_with fail
                refine (C7.out).mono ?_
                rintro e _ ⟨rfl, rfl⟩
                go_wp2_with fail
                go_ret2
                exact bp_ok HV.out ob.rb.len ob b1
              · rw [if_pos hck] at hv
                have HV := Lib.hid hv
                have hx : (ck != 0) = true := by simpa using hck
                clear hv hck
                go_enter Try.func37, Try.ntmps37
                go_wp2_with fail
                refine (C1.out).mono ?_
                rintro e _ ⟨rfl, rfl⟩
                go_wp2_with fail
                refine (C2.out).mono ?_
                rintro e _ ⟨rfl, rfl⟩
                go_wp2_with fail
                refine (U.out).mono ?_
                rintro e w1 ⟨A1, c1, rfl, ob, b1⟩
                dsimp only at ob
                have C7 := Lib.hid (C6.out _ _ _ _ w1 ob.rb)
                clear ob
                go_wp2_with fail
                refine (C7.out).mono ?_
                rintro e _ ⟨rfl, rfl⟩
                go_wp2_with fail
                go_ret2
                exact bp_bad HV.out b1
            · rw [if_pos hue] at hv
              have HV := Lib.hid hv
              have hx : (ue != 0) = true := by simpa using hue
              clear hv hue hb4
              go_enter Try.func37, Try.ntmps37
              go_wp2_with fail
              refine (C1.out).mono ?_
              rintro e _ ⟨rfl, rfl⟩
              go_wp2_with fail
              refine (C2.out).mono ?_
              rintro e _ ⟨rfl, rfl⟩
              go_wp2_with fail
              refine (U.out).mono ?_
              rintro e w1 ⟨A1, c1, rfl, ob, b1⟩
              clear ob
              go_wp2_with fail
              go_ret2
              exact bp_bad HV.out b1
          · rw [raw_no (s := a :: r) ht (.inl ha), if_pos (by simp)] at hv
            have HV := Lib.hid hv
            have e1 : ((a.toNat : Int) != 35) = true := by
              rw [bne_iff_ne]
              intro h
              exact ha (UInt8.toNat_inj.1 (by have : (35 : UInt8).toNat = 35 := rfl; omega))
            clear hv C6
            generalize (a :: r : List UInt8) = s at *
            clear ht ha
            go_enter Try.func37, Try.ntmps37
            go_wp2_with fail
            refine (C1.out).mono ?_
            rintro e _ ⟨rfl, rfl⟩
            go_wp2_with fail
            refine (C2.out).mono ?_
            rintro e _ ⟨rfl, rfl⟩
            go_wp2_with fail
            go_ret2
            exact bp_bad HV.out (Below.refl _ _)
end Go.Proofs.Ytnppihlalhaldaa
