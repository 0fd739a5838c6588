/-
  Texts joined: LexRef, LexRef2, TypRParse, LexOneP.
  Conditions: none.
-/
import Derived.Test.YtmolmpgampmolaaGreatJ06
import Derived.Test.YtmolmpgampmolaaGreatJ15
import Derived.Test.YtmolmpgampmolaaGreatJ16
import Derived.Test.YtmolmpgampmolaaGreatJ18
import Derived.StillTailTactics
import Derived.IntWalk
/-
  Walks: the reference of package lex: kinds of bytes, run, skip, quoted, at.
  Conditions: none.
-/
namespace Go.Proofs.YtmolmpgampmolaaGreat
set_option linter.unusedVariables false
set_option linter.unusedSimpArgs false
open Go.RowKit
theorem ref_letter (c : UInt8) (w : World) : Calls Tryz.prog 101 #[.int .u8 (c.toNat : Int)] w fun e w' => e = .returned (.bool (Lx.isL c)) ∧ w' = w := by
  have hc := byte_lt c
  by_cases h1 : 97 ≤ c.toNat
  all_goals
    go_enter Tryz.func101, Tryz.ntmps101
    go_wp2_with fail
    go_ret
    exact ⟨ret_bool (by rw [Bool.eq_iff_iff]; simp [Lx.isL] <;> omega), rfl⟩
theorem ref_digit (c : UInt8) (w : World) : Calls Tryz.prog 105 #[.int .u8 (c.toNat : Int)] w fun e w' => e = .returned (.bool (Ty.isD c)) ∧ w' = w := by
  have hc := byte_lt c
  by_cases h1 : 48 ≤ c.toNat
  all_goals
    go_enter Tryz.func105, Tryz.ntmps105
    go_wp2_with fail
    go_ret
    exact ⟨ret_bool (by rw [Bool.eq_iff_iff]; simp [Ty.isD] <;> omega), rfl⟩
theorem ref_hex (c : UInt8) (w : World) : Calls Tryz.prog 104 #[.int .u8 (c.toNat : Int)] w fun e w' => e = .returned (.bool (Lx.isH c)) ∧ w' = w := by
  have hc := byte_lt c
  have D := ref_digit c w
  generalize hd : Ty.isD c = d at *
  replace D := Lib.hid D
  have HD := Lib.hid hd; clear hd
  by_cases h1 : 97 ≤ c.toNat <;> cases d
  all_goals
    go_enter Tryz.func104, Tryz.ntmps104
    go_wp2_with fail
    refine (D.out).mono ?_
    rintro e _ ⟨rfl, rfl⟩
    go_wp2_with fail
    go_ret
    exact ⟨ret_bool (by rw [Bool.eq_iff_iff]; simp [Lx.isH, HD.out] <;> omega), rfl⟩
theorem ref_blank (c : UInt8) (w : World) : Calls Tryz.prog 100 #[.int .u8 (c.toNat : Int)] w fun e w' => e = .returned (.bool (Lx.blank c)) ∧ w' = w := by
  by_cases h1 : c = 32
  · subst h1
    go_enter Tryz.func100, Tryz.ntmps100
    go_wp2_with fail
    go_ret
    exact ⟨rfl, rfl⟩
  by_cases h2 : c = 9
  · subst h2
    go_enter Tryz.func100, Tryz.ntmps100
    go_wp2_with fail
    go_ret
    exact ⟨rfl, rfl⟩
  by_cases h3 : c = 10
  · subst h3
    go_enter Tryz.func100, Tryz.ntmps100
    go_wp2_with fail
    go_ret
    exact ⟨rfl, rfl⟩
  by_cases h4 : c = 13
  · subst h4
    go_enter Tryz.func100, Tryz.ntmps100
    go_wp2_with fail
    go_ret
    exact ⟨rfl, rfl⟩
  · have e1 := byte_ne (k := 32) h1 rfl
    have e2 := byte_ne (k := 9) h2 rfl
    have e3 := byte_ne (k := 10) h3 rfl
    have e4 := byte_ne (k := 13) h4 rfl
    go_enter Tryz.func100, Tryz.ntmps100
    go_wp2_with fail
    go_ret
    exact ⟨ret_bool (by simp [Lx.blank, h1, h2, h3, h4]), rfl⟩
theorem getD_drop (s : List UInt8) (i k : Nat) : (s.drop i).getD k 0 = s.getD (i + k) 0 := by
  rw [List.getD_eq_getElem?_getD, List.getElem?_drop, List.getD_eq_getElem?_getD]
theorem drop_cons {s : List UInt8} {k : Nat} (h : k < s.length) : s.drop k = s.getD k 0 :: s.drop (k + 1) := by
  rw [List.drop_eq_getElem_cons h, List.getD_eq_getElem?_getD, List.getElem?_eq_getElem h]
  rfl
set_option maxHeartbeats 2000000 in
theorem run_digits (s : List UInt8) (i : Nat) (w : World) (hs : s.length ≤ 1000000) (hi : i ≤ 2000000) :
    Calls Tryz.prog 102 #[.string (T s), .int .i64 (i : Int), .int .i64 1] w fun e w' => e = .returned (.int .i64 (((s.drop i).takeWhile Ty.isD).length : Int)) ∧ w' = w := by
  have hT := T_size s
  have hdl : (s.drop i).length = s.length - i := List.length_drop ..
  go_enter Tryz.func102, Tryz.ntmps102
  go_wp2_with fail
  go_loop [7] (fun v => ∃ k : Nat, k ≤ s.length - i ∧ v = .int .i64 k ∧ Hid (((s.drop i).take k).all Ty.isD = true)) (fun v => s.length - i - (intOf v).toNat)
  case atStart => exact ⟨0, by omega, rfl, Lib.hid rfl⟩
  case round =>
    obtain ⟨k, hk, rfl, hall⟩ := hrel
    by_cases hlt : i + k < s.length
    · have hat := fun w => run_T_at s .i64 ((i : Int) + k) (i + k) (by omega) hlt w
      have hgd := getD_drop s i k
      have D := ref_digit (s.getD (i + k) 0) w
      have L := ref_letter (s.getD (i + k) 0) w
      have H := ref_hex (s.getD (i + k) 0) w
      generalize s.getD (i + k) 0 = c at *
      cases hp : Ty.isD c with
      | true =>
        rw [hp] at D
        replace D := Lib.hid D; replace L := Lib.hid L; replace H := Lib.hid H
        have HT := Lib.hid (all_more hall.out (m := 1) (fun j a b => by rw [show j = k by omega, hgd]; exact hp) (by omega))
        clear hgd hp
        go_wp2_with fail
        refine (D.out).mono ?_
        rintro e _ ⟨rfl, rfl⟩
        go_wp2_with fail
        go_round
        case rel => exact ⟨k + 1, by omega, by go_num, HT⟩
        case measure => simp [intOf] <;> omega
      | false =>
        rw [hp] at D
        replace D := Lib.hid D; replace L := Lib.hid L; replace H := Lib.hid H
        have HT := Lib.hid (tw_cut hall.out (by omega) (by rw [hgd]; exact hp))
        clear hgd hp
        go_wp2_with fail
        refine (D.out).mono ?_
        rintro e _ ⟨rfl, rfl⟩
        go_wp2_with fail
        go_ret
        exact ⟨by rw [HT.out, List.length_take, Nat.min_eq_left (by omega)]; rfl, rfl⟩
    · have hz : k = s.length - i := by omega
      have HT := Lib.hid (tw_all (s := s.drop i) (p := Ty.isD) (by have := hall.out; rwa [List.take_of_length_le (by omega)] at this))
      have HZ := Lib.hid hz
      clear hz
      go_wp2_with fail
      go_ret
      exact ⟨by rw [HT.out, hdl, ← HZ.out]; rfl, rfl⟩
set_option maxHeartbeats 2000000 in
theorem run_hexs (s : List UInt8) (i : Nat) (w : World) (hs : s.length ≤ 1000000) (hi : i ≤ 2000000) :
    Calls Tryz.prog 102 #[.string (T s), .int .i64 (i : Int), .int .i64 2] w fun e w' => e = .returned (.int .i64 (((s.drop i).takeWhile Lx.isH).length : Int)) ∧ w' = w := by
  have hT := T_size s
  have hdl : (s.drop i).length = s.length - i := List.length_drop ..
  go_enter Tryz.func102, Tryz.ntmps102
  go_wp2_with fail
  go_loop [7] (fun v => ∃ k : Nat, k ≤ s.length - i ∧ v = .int .i64 k ∧ Hid (((s.drop i).take k).all Lx.isH = true)) (fun v => s.length - i - (intOf v).toNat)
  case atStart => exact ⟨0, by omega, rfl, Lib.hid rfl⟩
  case round =>
    obtain ⟨k, hk, rfl, hall⟩ := hrel
    by_cases hlt : i + k < s.length
    · have hat := fun w => run_T_at s .i64 ((i : Int) + k) (i + k) (by omega) hlt w
      have hgd := getD_drop s i k
      have D := ref_digit (s.getD (i + k) 0) w
      have L := ref_letter (s.getD (i + k) 0) w
      have H := ref_hex (s.getD (i + k) 0) w
      generalize s.getD (i + k) 0 = c at *
      cases hp : Lx.isH c with
      | true =>
        rw [hp] at H
        replace D := Lib.hid D; replace L := Lib.hid L; replace H := Lib.hid H
        have HT := Lib.hid (all_more hall.out (m := 1) (fun j a b => by rw [show j = k by omega, hgd]; exact hp) (by omega))
        clear hgd hp
        go_wp2_with fail
        refine (D.out).mono ?_
        rintro e _ ⟨rfl, rfl⟩
        go_wp2_with fail
        refine (H.out).mono ?_
        rintro e _ ⟨rfl, rfl⟩
        go_wp2_with fail
        go_round
        case rel => exact ⟨k + 1, by omega, by go_num, HT⟩
        case measure => simp [intOf] <;> omega
      | false =>
        rw [hp] at H
        replace D := Lib.hid D; replace L := Lib.hid L; replace H := Lib.hid H
        have HT := Lib.hid (tw_cut hall.out (by omega) (by rw [hgd]; exact hp))
        clear hgd hp
        go_wp2_with fail
        refine (D.out).mono ?_
        rintro e _ ⟨rfl, rfl⟩
        go_wp2_with fail
        refine (H.out).mono ?_
        rintro e _ ⟨rfl, rfl⟩
        go_wp2_with fail
        go_ret
        exact ⟨by rw [HT.out, List.length_take, Nat.min_eq_left (by omega)]; rfl, rfl⟩
    · have hz : k = s.length - i := by omega
      have HT := Lib.hid (tw_all (s := s.drop i) (p := Lx.isH) (by have := hall.out; rwa [List.take_of_length_le (by omega)] at this))
      have HZ := Lib.hid hz
      clear hz
      go_wp2_with fail
      go_ret
      exact ⟨by rw [HT.out, hdl, ← HZ.out]; rfl, rfl⟩
set_option maxHeartbeats 2000000 in
theorem run_words (s : List UInt8) (i : Nat) (w : World) (hs : s.length ≤ 1000000) (hi : i ≤ 2000000) :
    Calls Tryz.prog 102 #[.string (T s), .int .i64 (i : Int), .int .i64 0] w fun e w' => e = .returned (.int .i64 (((s.drop i).takeWhile Lx.inW).length : Int)) ∧ w' = w := by
  have hT := T_size s
  have hdl : (s.drop i).length = s.length - i := List.length_drop ..
  go_enter Tryz.func102, Tryz.ntmps102
  go_wp2_with fail
  go_loop [7] (fun v => ∃ k : Nat, k ≤ s.length - i ∧ v = .int .i64 k ∧ Hid (((s.drop i).take k).all Lx.inW = true)) (fun v => s.length - i - (intOf v).toNat)
  case atStart => exact ⟨0, by omega, rfl, Lib.hid rfl⟩
  case round =>
    obtain ⟨k, hk, rfl, hall⟩ := hrel
    by_cases hlt : i + k < s.length
    · have hat := fun w => run_T_at s .i64 ((i : Int) + k) (i + k) (by omega) hlt w
      have hgd := getD_drop s i k
      have D := ref_digit (s.getD (i + k) 0) w
      have L := ref_letter (s.getD (i + k) 0) w
      have H := ref_hex (s.getD (i + k) 0) w
      generalize s.getD (i + k) 0 = c at *
      cases hd : Ty.isD c with
      | true =>
        rw [hd] at D
        have hp : Lx.inW c = true := by unfold Lx.inW; rw [hd]; simp
        clear hd
        replace D := Lib.hid D; replace L := Lib.hid L; replace H := Lib.hid H
        have HT := Lib.hid (all_more hall.out (m := 1) (fun j a b => by rw [show j = k by omega, hgd]; exact hp) (by omega))
        clear hgd hp
        go_wp2_with fail
        refine (D.out).mono ?_
        rintro e _ ⟨rfl, rfl⟩
        go_wp2_with fail
        go_round
        case rel => exact ⟨k + 1, by omega, by go_num, HT⟩
        case measure => simp [intOf] <;> omega
      | false =>
        rw [hd] at D
        cases hl : Lx.isL c with
        | true =>
          rw [hl] at L
          have hp : Lx.inW c = true := by unfold Lx.inW; rw [hl]; rfl
          clear hd hl
          replace D := Lib.hid D; replace L := Lib.hid L; replace H := Lib.hid H
          have HT := Lib.hid (all_more hall.out (m := 1) (fun j a b => by rw [show j = k by omega, hgd]; exact hp) (by omega))
          clear hgd hp
          go_wp2_with fail
          refine (D.out).mono ?_
          rintro e _ ⟨rfl, rfl⟩
          go_wp2_with fail
          refine (L.out).mono ?_
          rintro e _ ⟨rfl, rfl⟩
          go_wp2_with fail
          go_round
          case rel => exact ⟨k + 1, by omega, by go_num, HT⟩
          case measure => simp [intOf] <;> omega
        | false =>
          rw [hl] at L
          by_cases h95 : c = 95
          · have hp : Lx.inW c = true := by rw [h95]; rfl
            have hc : ((c.toNat : Int) == 95) = true := by rw [h95]; rfl
            clear hd hl h95
            replace D := Lib.hid D; replace L := Lib.hid L; replace H := Lib.hid H
            have HT := Lib.hid (all_more hall.out (m := 1) (fun j a b => by rw [show j = k by omega, hgd]; exact hp) (by omega))
            clear hgd hp
            go_wp2_with fail
            refine (D.out).mono ?_
            rintro e _ ⟨rfl, rfl⟩
            go_wp2_with fail
            refine (L.out).mono ?_
            rintro e _ ⟨rfl, rfl⟩
            go_wp2_with fail
            go_round
            case rel => exact ⟨k + 1, by omega, by go_num, HT⟩
            case measure => simp [intOf] <;> omega
          · have hp : Lx.inW c = false := by unfold Lx.inW; rw [hd, hl]; simpa using h95
            have hc := byte_ne (k := 95) h95 rfl
            clear hd hl h95
            replace D := Lib.hid D; replace L := Lib.hid L; replace H := Lib.hid H
            have HT := Lib.hid (tw_cut hall.out (by omega) (by rw [hgd]; exact hp))
            clear hgd hp
            go_wp2_with fail
            refine (D.out).mono ?_
            rintro e _ ⟨rfl, rfl⟩
            go_wp2_with fail
            refine (L.out).mono ?_
            rintro e _ ⟨rfl, rfl⟩
            go_wp2_with fail
            go_ret
            exact ⟨by rw [HT.out, List.length_take, Nat.min_eq_left (by omega)]; rfl, rfl⟩
    · have hz : k = s.length - i := by omega
      have HT := Lib.hid (tw_all (s := s.drop i) (p := Lx.inW) (by have := hall.out; rwa [List.take_of_length_le (by omega)] at this))
      have HZ := Lib.hid hz
      clear hz
      go_wp2_with fail
      go_ret
      exact ⟨by rw [HT.out, hdl, ← HZ.out]; rfl, rfl⟩
theorem ref_at (s : List UInt8) (i : Nat) (w : World) (hs : s.length ≤ 1000000) (hi : i ≤ 2000000) :
    Calls Tryz.prog 103 #[.string (T s), .int .i64 (i : Int)] w fun e w' => e = .returned (.int .u8 ((s.getD i 0).toNat : Int)) ∧ w' = w := by
  have hT := T_size s
  by_cases hlt : i < s.length
  · have hat := fun w => run_T_at s .i64 (i : Int) i rfl hlt w
    generalize s.getD i 0 = c at *
    go_enter Tryz.func103, Tryz.ntmps103
    go_wp2_with fail
    go_ret
    exact ⟨rfl, rfl⟩
  · have hz : s.getD i 0 = 0 := by rw [List.getD_eq_getElem?_getD, List.getElem?_eq_none (by omega)]; rfl
    have HZ := Lib.hid hz; clear hz
    go_enter Tryz.func103, Tryz.ntmps103
    go_wp2_with fail
    go_ret
    exact ⟨by rw [HZ.out]; rfl, rfl⟩
end Go.Proofs.YtmolmpgampmolaaGreat
/-
  Walks: the reference of package lex: skip, quoted.
  Conditions: none.
-/
namespace Go.Proofs.YtmolmpgampmolaaGreat
set_option linter.unusedVariables false
set_option linter.unusedSimpArgs false
open Go.RowKit
namespace Lx
theorem skip_blank {c : UInt8} {r : List UInt8} (h : blank c = true) : skip false (c :: r) = skip false r := by rw [skip, if_pos h]
theorem skip_in {c : UInt8} {r : List UInt8} (h : c ≠ 10) : skip true (c :: r) = skip true r := by
  rw [skip]
  congr 1
  unfold line
  simpa using h
theorem skip_out (r : List UInt8) : skip true (10 :: r) = skip false (10 :: r) := rfl
end Lx
set_option maxRecDepth 100000 in
set_option maxHeartbeats 4000000 in
theorem skip_any (s : List UInt8) (i : Nat) (w : World) (hs : s.length ≤ 1000000) (hi : i ≤ s.length) :
    Calls Tryz.prog 52 #[.string (T s), .int .i64 (i : Int)] w fun e w' => e = .returned (.int .i64 (Lx.pos s i : Int)) ∧ w' = w := by
  have hT := T_size s
  have hf : ∀ j, j ≤ s.length → Lx.skip false (s.drop j) = Lx.skip false (s.drop i) → s.drop j = Lx.skip false (s.drop j) → j = Lx.pos s i := fun j hj h1 h2 => by
    unfold Lx.pos
    rw [← h1, ← h2, List.length_drop]
    omega
  have HF := Lib.hid hf; clear hf
  generalize Lx.pos s i = res at *
  go_enter Tryz.func52, Tryz.ntmps52
  go_wp2_with fail
  go_loop [1] (fun v => ∃ k : Nat, k ≤ s.length ∧ v = .int .i64 k ∧ Hid (Lx.skip false (s.drop k) = Lx.skip false (s.drop i))) (fun v => s.length - (intOf v).toNat)
  case atStart => exact ⟨i, hi, rfl, Lib.hid rfl⟩
  case round =>
    obtain ⟨k, hk, rfl, hq⟩ := hrel
    by_cases hlt : k < s.length
    · have hd := drop_cons hlt
      have hat := fun w => run_T_at s .i64 k k rfl hlt w
      have hqo := hq.out
      rw [hd] at hqo
      clear hq
      have B := ref_blank (s.getD k 0) w
      cases hb : Lx.blank (s.getD k 0) with
      | true =>
        rw [hb] at B
        rw [Lx.skip_blank hb] at hqo
        have HQ := Lib.hid hqo
        replace B := Lib.hid B
        generalize s.getD k 0 = c at *
        clear hqo hd hb
        go_wp2_with fail
        refine (B.out).mono ?_
        rintro e _ ⟨rfl, rfl⟩
        go_wp2_with fail
        go_round
        case rel => exact ⟨k + 1, by omega, by go_num, HQ⟩
        case measure => simp [intOf] <;> omega
      | false =>
        rw [hb] at B
        replace B := Lib.hid B
        by_cases h33 : s.getD k 0 = 33
        · rw [h33] at hqo hat
          rw [h33] at B
          rw [Lx.skip_bang, Lx.skip_in (by decide)] at hqo
          have H33 := Lib.hid h33
          have HQ0 : Hid (Lx.skip true (s.drop k) = Lx.skip false (s.drop i)) := Lib.hid (by rw [hd, h33, Lx.skip_in (by decide)]; exact hqo)
          clear hqo hd hb h33
          go_wp2_with fail
          refine (B.out).mono ?_
          rintro e _ ⟨rfl, rfl⟩
          go_wp2_with fail
          clear hat
          go_loop [1] (fun v => ∃ j : Nat, k ≤ j ∧ j ≤ s.length ∧ v = .int .i64 j ∧ Hid (Lx.skip true (s.drop j) = Lx.skip false (s.drop i))) (fun v => s.length - (intOf v).toNat)
          case atStart => exact ⟨k, by omega, hk, rfl, HQ0⟩
          case round =>
            obtain ⟨j, hkj, hj, rfl, hq⟩ := hrel
            by_cases hlj : j < s.length
            · have hd := drop_cons hlj
              have hat := fun w => run_T_at s .i64 j j rfl hlj w
              have hqo := hq.out
              rw [hd] at hqo
              clear hq
              by_cases h10 : s.getD j 0 = 10
              · have hne : j ≠ k := by
                  rintro rfl
                  rw [H33.out] at h10
                  exact absurd h10 (by decide)
                rw [h10] at hat hqo
                rw [Lx.skip_out] at hqo
                have HQ : Hid (Lx.skip false (s.drop j) = Lx.skip false (s.drop i)) := Lib.hid (by rw [hd, h10]; exact hqo)
                clear hqo hd h10
                go_wp2_with fail
                go_round
                case rel => exact ⟨j, by omega, rfl, HQ⟩
                case measure => simp [intOf] <;> omega
              · have hc1 := byte_neq (k := 10) h10 rfl
                rw [Lx.skip_in h10] at hqo
                have HQ := Lib.hid hqo
                clear hqo hd h10
                generalize s.getD j 0 = c at *
                go_wp2_with fail
                go_round
                case rel => exact ⟨j + 1, by omega, by omega, by go_num, HQ⟩
                case measure => simp [intOf] <;> omega
            · obtain rfl : j = s.length := by omega
              have HQ : Hid (Lx.skip false (s.drop s.length) = Lx.skip false (s.drop i)) := Lib.hid (by
                have := hq.out
                rw [List.drop_length] at this ⊢
                exact this)
              clear hq
              go_wp2_with fail
              go_round
              case rel => exact ⟨s.length, by omega, rfl, HQ⟩
              case measure => simp [intOf] <;> omega
        · have hc1 := byte_ne (k := 33) h33 rfl
          rw [Lx.skip_stop hb h33] at hqo
          have HZ : Hid (k = res) := Lib.hid (HF.out k hk (by rw [hd, Lx.skip_stop hb h33]; exact hqo) (by rw [hd, Lx.skip_stop hb h33]))
          clear hqo hd hb h33
          generalize s.getD k 0 = c at *
          go_wp2_with fail
          refine (B.out).mono ?_
          rintro e _ ⟨rfl, rfl⟩
          go_wp2_with fail
          go_ret
          exact ⟨ret_int (by rw [HZ.out]), rfl⟩
    · obtain rfl : k = s.length := by omega
      have HZ : Hid (s.length = res) := Lib.hid (HF.out _ (Nat.le_refl _) hq.out (by rw [List.drop_length]; rfl))
      clear hq
      go_wp2_with fail
      go_ret
      exact ⟨ret_int (by rw [HZ.out]), rfl⟩
/-- How many bytes a text between two signs has. -/
def quoN (s : List UInt8) (i : Nat) : Int := match Lx.qlen false (s.drop (i + 1)) with | some k => (k : Int) + 1 | none => 0
set_option maxRecDepth 100000 in
set_option maxHeartbeats 4000000 in
theorem rquoted_any (s : List UInt8) (i : Nat) (w : World) (hs : s.length ≤ 1000000) (hi : i < s.length) :
    Calls Tryz.prog 107 #[.string (T s), .int .i64 (i : Int)] w fun e w' => e = .returned (.int .i64 (quoN s i)) ∧ w' = w := by
  have hT := T_size s
  go_enter Tryz.func107, Tryz.ntmps107
  go_wp2_with fail
  go_loop [5] (fun v => ∃ j : Nat, i + 1 ≤ j ∧ j ≤ s.length + 1 ∧ v = .int .i64 j ∧ Hid (Lx.qlen false (s.drop (i + 1)) = (Lx.qlen false (s.drop j)).map (· + (j - (i + 1))))) (fun v => s.length + 1 - (intOf v).toNat)
  case atStart => exact ⟨i + 1, by omega, by omega, by go_num, Lib.hid (by simp)⟩
  case round =>
    obtain ⟨j, hj1, hj, rfl, hq⟩ := hrel
    by_cases hlt : j < s.length
    · have hd := drop_cons hlt
      have hat := fun w => run_T_at s .i64 j j rfl hlt w
      have hqo := hq.out
      rw [hd] at hqo
      clear hq
      by_cases h34 : s.getD j 0 = 34
      · rw [h34] at hat hqo
        have HV : Hid ((j : Int) + 1 - i = quoN s i) := Lib.hid (by
          unfold quoN
          rw [hqo, Lx.qlen, if_neg (by decide), if_pos rfl]
          simp only [Option.map_some]
          omega)
        clear hqo hd h34
        go_wp2_with fail
        go_ret
        exact ⟨ret_int HV.out, rfl⟩
      · have hc1 := byte_ne (k := 34) h34 rfl
        by_cases h92 : s.getD j 0 = 92
        · rw [h92] at hat hqo hc1
          have HQ : Hid (Lx.qlen false (s.drop (i + 1)) = (Lx.qlen false (s.drop (j + 2))).map (· + (j + 2 - (i + 1)))) := Lib.hid (by
            rw [hqo, Lx.qlen, if_pos rfl]
            by_cases hj2 : j + 1 < s.length
            · rw [drop_cons hj2, Lx.qlen]
              cases Lx.qlen false (s.drop (j + 1 + 1)) with
              | none => rfl
              | some x => simp only [Option.map_some]; congr 1; omega
            · rw [List.drop_of_length_le (by omega), List.drop_of_length_le (by omega)]
              rfl)
          clear hqo hd h34 h92
          go_wp2_with fail
          go_round
          case rel => exact ⟨j + 2, by omega, by omega, by go_num, HQ⟩
          case measure => simp [intOf] <;> omega
        · have hc2 := byte_ne (k := 92) h92 rfl
          have HQ : Hid (Lx.qlen false (s.drop (i + 1)) = (Lx.qlen false (s.drop (j + 1))).map (· + (j + 1 - (i + 1)))) := Lib.hid (by
            rw [hqo, Lx.qlen, if_neg h92, if_neg h34]
            cases Lx.qlen false (s.drop (j + 1)) with
            | none => rfl
            | some x => simp only [Option.map_some]; congr 1; omega)
          clear hqo hd h34 h92
          generalize s.getD j 0 = c at *
          go_wp2_with fail
          go_round
          case rel => exact ⟨j + 1, by omega, by omega, by go_num, HQ⟩
          case measure => simp [intOf] <;> omega
    · have HV : Hid (0 = quoN s i) := Lib.hid (by
        unfold quoN
        rw [hq.out, List.drop_of_length_le (by omega)]
        rfl)
      clear hq
      go_wp2_with fail
      go_ret
      exact ⟨ret_int HV.out, rfl⟩
end Go.Proofs.YtmolmpgampmolaaGreat
/-
  Walk: the reference's Parse.
  Conditions: none.
-/
namespace Go.Proofs.YtmolmpgampmolaaGreat
set_option linter.unusedVariables false
set_option linter.unusedSimpArgs false
open Go.RowKit
set_option maxRecDepth 100000 in
set_option maxHeartbeats 8000000 in
theorem RParse_anyT (t : Int) (s : List UInt8) (w : World) (hs : s.length ≤ 100000) : Calls Tryz.prog 22 #[.int .i64 t, .string (T s)] w (BP (Ty.parseS t s) w) := by
  have hv := parse_val t s
  have C1 := RKnown_any t w
  have C2 := RTBits_any t w
  have C3 := rnumber_any s w (by omega)
  obtain ⟨⟨p1, p2⟩, p3⟩ := par_range2 s
  have C5 := fun w => REncode_any t (Ty.parN s).1 w p1 p2
  have C6 := fun (A : Option Addr) (n c B : Nat) (w : World) (hb : RB w B A n c (Ty.rawS t s).1) => RCheckT_any t 256 w hb
  unfold knownB at C1
  unfold parRes rparN at C3
  generalize hpn : Ty.parN s = pn at *
  obtain ⟨pv, pe⟩ := pn
  dsimp only at hv C3 C5 p1 p2 p3
  generalize Ty.parseS t s = v at *
  generalize Ty.encS t pv = en at *
  clear hpn
  have HT := Lib.hid (T_size s)
  by_cases hnm : (Ty.kd t).name = []
  · rw [if_pos hnm] at hv
    rw [hnm] at C1
    simp only [List.isEmpty_nil, Bool.not_true] at C1
    replace C1 := Lib.hid C1
    have HV := Lib.hid hv
    clear hv hnm p3 C3 C2 C5 C6
    go_enter Tryz.func22, Tryz.ntmps22
    go_wp2_with fail
    refine (C1.out).mono ?_
    rintro e _ ⟨rfl, rfl⟩
    go_wp2_with fail
    go_ret2
    exact bp_bad HV.out (Below.refl _ _)
  · rw [if_neg hnm] at hv
    have h1 : (Ty.kd t).name.isEmpty = false := by simpa using hnm
    rw [h1, Bool.not_false] at C1
    replace C1 := Lib.hid C1
    clear hnm h1
    generalize (Ty.kd t).bits = bt at *
    replace C2 := Lib.hid C2; replace C5 := Lib.hid C5; replace C6 := Lib.hid C6
    by_cases hbt : 0 < bt
    · rw [if_pos hbt] at hv
      clear C6
      rcases p3 with rfl | rfl | rfl
      · rw [if_neg (by simp)] at hv
        rw [if_neg (by decide), if_neg (by decide)] at C3
        replace C3 := Lib.hid C3
        have HV := Lib.hid hv
        clear hv
        go_enter Tryz.func22, Tryz.ntmps22
        go_wp2_with fail
        refine (C1.out).mono ?_
        rintro e _ ⟨rfl, rfl⟩
        go_wp2_with fail
        refine (C2.out).mono ?_
        rintro e _ ⟨rfl, rfl⟩
        go_wp2_with fail
        refine (C3.out).mono ?_
        rintro e _ ⟨rfl, rfl⟩
        go_wp2_with fail
        refine (C5.out _).mono ?_
        rintro e w3 ⟨A3, c3, rfl, o3, b3⟩
        go_wp2_with fail
        go_ret2
        exact bp_ok (by rw [HV.out]) rfl o3 b3
      · rw [if_pos (by simp)] at hv
        rw [if_pos rfl] at C3
        replace C3 := Lib.hid C3
        have HV := Lib.hid hv
        clear hv
        go_enter Tryz.func22, Tryz.ntmps22
        go_wp2_with fail
        refine (C1.out).mono ?_
        rintro e _ ⟨rfl, rfl⟩
        go_wp2_with fail
        refine (C2.out).mono ?_
        rintro e _ ⟨rfl, rfl⟩
        go_wp2_with fail
        refine (C3.out).mono ?_
        rintro e _ ⟨rfl, rfl⟩
        go_wp2_with fail
        go_ret2
        exact bp_bad HV.out (Below.refl _ _)
      · rw [if_pos (by simp)] at hv
        rw [if_neg (by decide), if_pos rfl] at C3
        replace C3 := Lib.hid C3
        have HV := Lib.hid hv
        clear hv
        go_enter Tryz.func22, Tryz.ntmps22
        go_wp2_with fail
        refine (C1.out).mono ?_
        rintro e _ ⟨rfl, rfl⟩
        go_wp2_with fail
        refine (C2.out).mono ?_
        rintro e _ ⟨rfl, rfl⟩
        go_wp2_with fail
        refine (C3.out).mono ?_
        rintro e _ ⟨rfl, rfl⟩
        go_wp2_with fail
        go_ret2
        exact bp_bad HV.out (Below.refl _ _)
    · rw [if_neg hbt] at hv
      obtain rfl : bt = 0 := by omega
      clear hbt p3 C3 C5
      by_cases ht : t = 9
      · subst ht
        have hraw := raw_nine (s := s)
        have U := Lib.hid (rtext_any s w (by omega))
        generalize Ty.unq s = o at *
        cases o with
        | none =>
          dsimp only at hraw
          rw [hraw] at hv
          rw [if_pos (by simp)] at hv
          have HV := Lib.hid hv
          clear hv hraw C6
          go_enter Tryz.func22, Tryz.ntmps22
          go_wp2_with fail
          refine (C1.out).mono ?_
          rintro e _ ⟨rfl, rfl⟩
          go_wp2_with fail
          refine (C2.out).mono ?_
          rintro e _ ⟨rfl, rfl⟩
          go_wp2_with fail
          refine (U.out).mono ?_
          rintro e w1 ⟨A1, n1, c1, b1, hm⟩
          dsimp only at hm
          subst hm
          go_wp2_with fail
          go_ret2
          exact bp_bad HV.out b1
        | some b =>
          dsimp only at hraw
          rw [hraw] at hv C6
          dsimp only at hv C6
          rw [if_neg (by simp)] at hv
          generalize Ty.checkS 9 256 b = ck at *
          clear hraw
          by_cases hck : ck = 0
          · subst hck
            rw [if_neg (by simp)] at hv
            have HV := Lib.hid hv
            clear hv
            go_enter Tryz.func22, Tryz.ntmps22
            go_wp2_with fail
            refine (C1.out).mono ?_
            rintro e _ ⟨rfl, rfl⟩
            go_wp2_with fail
            refine (C2.out).mono ?_
            rintro e _ ⟨rfl, rfl⟩
            go_wp2_with fail
            refine (U.out).mono ?_
            rintro e w1 ⟨A1, n1, c1, b1, hm⟩
            dsimp only at hm
            obtain ⟨rfl, ob⟩ := hm
            have C7 := Lib.hid (C6.out _ _ _ _ w1 ob.rb)
            go_wp2_with fail
            refine (C7.out).mono ?_
            rintro e _ ⟨rfl, rfl⟩
            go_wp2_with fail
            go_ret2
            exact bp_ok HV.out ob.rb.len ob b1
          · rw [if_pos hck] at hv
            have HV := Lib.hid hv
            have hx : (ck != 0) = true := by simpa using hck
            clear hv hck
            go_enter Tryz.func22, Tryz.ntmps22
            go_wp2_with fail
            refine (C1.out).mono ?_
            rintro e _ ⟨rfl, rfl⟩
            go_wp2_with fail
            refine (C2.out).mono ?_
            rintro e _ ⟨rfl, rfl⟩
            go_wp2_with fail
            refine (U.out).mono ?_
            rintro e w1 ⟨A1, n1, c1, b1, hm⟩
            dsimp only at hm
            obtain ⟨rfl, ob⟩ := hm
            have C7 := Lib.hid (C6.out _ _ _ _ w1 ob.rb)
            clear ob
            go_wp2_with fail
            refine (C7.out).mono ?_
            rintro e _ ⟨rfl, rfl⟩
            go_wp2_with fail
            go_ret2
            exact bp_bad HV.out b1
      · have ht1 : (t == 9) = false := by rw [beq_eq_false_iff_ne]; exact ht
        cases s with
        | nil =>
          rw [raw_no (s := []) ht (.inr rfl), if_pos (by simp)] at hv
          have HV := Lib.hid hv
          have hT : (T []).size = 0 := rfl
          clear ht hv C6
          go_enter Tryz.func22, Tryz.ntmps22
          go_wp2_with fail
          refine (C1.out).mono ?_
          rintro e _ ⟨rfl, rfl⟩
          go_wp2_with fail
          refine (C2.out).mono ?_
          rintro e _ ⟨rfl, rfl⟩
          go_wp2_with fail
          go_ret2
          exact bp_bad HV.out (Below.refl _ _)
        | cons a r =>
          have hat := fun w => run_T_at (a :: r) .i64 0 0 rfl (by simp) w
          rw [show (a :: r).getD 0 0 = a from rfl] at hat
          have hpos : 1 ≤ (a :: r).length := by simp
          have hT := HT.out
          by_cases ha : a = 35
          · subst ha
            rw [raw_hex (r := r) ht] at hv C6
            have hcut := fun w => run_T_rest (35 :: r) .i64 1 1 rfl (by simp) w
            rw [show List.drop 1 (35 :: r) = r from rfl] at hcut
            have U := RUnhexT r w (by simp at hs; omega)
            have hb4 := unhex_bad (s := r)
            have e1 : (((35 : UInt8).toNat : Int) != 35) = false := rfl
            generalize Oct.unhexS r = uh at *
            obtain ⟨ub, ue⟩ := uh
            dsimp only at hv hb4
            have C6 := Lib.hid C6.out
            dsimp only at C6
            generalize (35 :: r : List UInt8) = s at *
            generalize Ty.checkS t 256 ub = ck at *
            replace U := Lib.hid U
            clear ht
            by_cases hue : ue = 0
            · subst hue
              rw [if_neg (by simp)] at hv
              clear hb4
              by_cases hck : ck = 0
              · subst hck
                rw [if_neg (by simp)] at hv
                have HV := Lib.hid hv
                clear hv
                go_enter Tryz.func22, Tryz.ntmps22
                go_wp2_with fail
                refine (C1.out).mono ?_
                rintro e _ ⟨rfl, rfl⟩
                go_wp2_with fail
                refine (C2.out).mono ?_
                rintro e _ ⟨rfl, rfl⟩
                go_wp2_with fail
                refine (U.out).mono ?_
                rintro e w1 ⟨A1, c1, rfl, ob, b1⟩
                dsimp only at ob
                have C7 := Lib.hid (C6.out _ _ _ _ w1 ob.rb)
                go_wp2_with fail
                refine (C7.out).mono ?_
                rintro e _ ⟨rfl, rfl⟩
                go_wp2_with fail
                go_ret2
                exact bp_ok HV.out ob.rb.len ob b1
              · rw [if_pos hck] at hv
                have HV := Lib.hid hv
                have hx : (ck != 0) = true := by simpa using hck
                clear hv hck
                go_enter Tryz.func22, Tryz.ntmps22
                go_wp2_with fail
                refine (C1.out).mono ?_
                rintro e _ ⟨rfl, rfl⟩
                go_wp2_with fail
                refine (C2.out).mono ?_
                rintro e _ ⟨rfl, rfl⟩
                go_wp2_with fail
                refine (U.out).mono ?_
                rintro e w1 ⟨A1, c1, rfl, ob, b1⟩
                dsimp only at ob
                have C7 := Lib.hid (C6.out _ _ _ _ w1 ob.rb)
                clear ob
                go_wp2_with fail
                refine (C7.out).mono ?_
                rintro e _ ⟨rfl, rfl⟩
                go_wp2_with fail
                go_ret2
                exact bp_bad HV.out b1
            · rw [if_pos hue] at hv
              have HV := Lib.hid hv
              have hx : (ue != 0) = true := by simpa using hue
              clear hv hue hb4
              go_enter Tryz.func22, Tryz.ntmps22
              go_wp2_with fail
              refine (C1.out).mono ?_
              rintro e _ ⟨rfl, rfl⟩
              go_wp2_with fail
              refine (C2.out).mono ?_
              rintro e _ ⟨rfl, rfl⟩
              go_wp2_with fail
              refine (U.out).mono ?_
              rintro e w1 ⟨A1, c1, rfl, ob, b1⟩
              clear ob
              go_wp2_with fail
              go_ret2
              exact bp_bad HV.out b1
          · rw [raw_no (s := a :: r) ht (.inl ha), if_pos (by simp)] at hv
            have HV := Lib.hid hv
            have e1 : ((a.toNat : Int) != 35) = true := by
              rw [bne_iff_ne]
              intro h
              exact ha (UInt8.toNat_inj.1 (by have : (35 : UInt8).toNat = 35 := rfl; omega))
            clear hv C6
            generalize (a :: r : List UInt8) = s at *
            clear ht ha
            go_enter Tryz.func22, Tryz.ntmps22
            go_wp2_with fail
            refine (C1.out).mono ?_
            rintro e _ ⟨rfl, rfl⟩
            go_wp2_with fail
            refine (C2.out).mono ?_
            rintro e _ ⟨rfl, rfl⟩
            go_wp2_with fail
            go_ret2
            exact bp_bad HV.out (Below.refl _ _)
end Go.Proofs.YtmolmpgampmolaaGreat
/-
  Walk: the reference of package lex: one.
  Conditions: none.
-/
namespace Go.Proofs.YtmolmpgampmolaaGreat
set_option linter.unusedVariables false
set_option linter.unusedSimpArgs false
open Go.RowKit
/-- A token at a place, and its code. -/
def OneP (p : Lx.Tk × Int) (i : Nat) (w : World) (e : Ending) (w' : World) : Prop := e = .returned (.tuple #[tkV p.1.kind p.1.text p.1.n (if p.2 = 0 then (i : Int) else 0), .int .i64 p.2]) ∧ Below w.heap.size w w'
theorem one_mk {p : Lx.Tk × Int} {i : Nat} {w w' : World} {k n : Int} {s : List UInt8} (h : p = (⟨k, s, n, 0⟩, 0)) (hb : Below w.heap.size w w') : OneP p i w (.returned (.tuple #[tkV k s n (i : Int), .int .i64 0])) w' := by subst h; exact ⟨rfl, hb⟩
theorem one_no {p : Lx.Tk × Int} {i : Nat} {w w' : World} {x : Int} (h : p = (Lx.tk0, x)) (hx : x ≠ 0) (hb : Below w.heap.size w w') : OneP p i w (.returned (.tuple #[tkV 0 [] 0 0, .int .i64 x])) w' := by subst h; exact ⟨by simp [Lx.tk0, hx], hb⟩
theorem fst_getD {p : UInt8 → Bool} (h0 : p 0 = false) (s : List UInt8) (j : Nat) : Lx.fst p (s.drop j) = p (s.getD j 0) := by
  by_cases hj : j < s.length
  · rw [drop_cons hj]; rfl
  · rw [List.drop_of_length_le (by omega), List.getD_eq_getElem?_getD, List.getElem?_eq_none (by omega)]
    exact h0.symm
theorem at_z (s : List UInt8) (z : Int) (j : Nat) (hz : z = (j : Int)) (hs : s.length ≤ 1000000) (hj : j ≤ 2000000) (w : World) :
    Calls Tryz.prog 103 #[.string (T s), .int .i64 z] w fun e w' => e = .returned (.int .u8 ((s.getD j 0).toNat : Int)) ∧ w' = w := by subst hz; exact ref_at s j w hs hj
theorem words_z (s : List UInt8) (z : Int) (j : Nat) (hz : z = (j : Int)) (hs : s.length ≤ 1000000) (hj : j ≤ 2000000) (w : World) :
    Calls Tryz.prog 102 #[.string (T s), .int .i64 z, .int .i64 0] w fun e w' => e = .returned (.int .i64 (((s.drop j).takeWhile Lx.inW).length : Int)) ∧ w' = w := by subst hz; exact run_words s j w hs hj
theorem digits_z (s : List UInt8) (z : Int) (j : Nat) (hz : z = (j : Int)) (hs : s.length ≤ 1000000) (hj : j ≤ 2000000) (w : World) :
    Calls Tryz.prog 102 #[.string (T s), .int .i64 z, .int .i64 1] w fun e w' => e = .returned (.int .i64 (((s.drop j).takeWhile Ty.isD).length : Int)) ∧ w' = w := by subst hz; exact run_digits s j w hs hj
theorem hexs_z (s : List UInt8) (z : Int) (j : Nat) (hz : z = (j : Int)) (hs : s.length ≤ 1000000) (hj : j ≤ 2000000) (w : World) :
    Calls Tryz.prog 102 #[.string (T s), .int .i64 z, .int .i64 2] w fun e w' => e = .returned (.int .i64 (((s.drop j).takeWhile Lx.isH).length : Int)) ∧ w' = w := by subst hz; exact run_hexs s j w hs hj
theorem cut_text {s : List UInt8} {i n : Nat} {t : List UInt8} (h : (s.drop i).take n = t) : (s.take (i + n)).drop i = t := by
  rw [List.drop_take, Nat.add_sub_cancel_left]
  exact h
theorem tokX_at {s : List UInt8} {i : Nat} {c : UInt8} {r : List UInt8} (hr : s.drop (i + 1) = r) : Lx.tokX c r = (c == 48 && (s.getD (i + 1) 0 == 120) && Lx.isH (s.getD (i + 2) 0)) := by
  unfold Lx.tokX
  rw [← hr, List.tail_drop, fst_getD (by decide), fst_getD (by decide)]
theorem tokD_at {s : List UInt8} {i : Nat} {c : UInt8} {r : List UInt8} (hr : s.drop (i + 1) = r) : Lx.tokD c r = (Ty.isD c || (c == 45 && Ty.isD (s.getD (i + 1) 0))) := by
  unfold Lx.tokD
  rw [← hr, fst_getD (by decide)]
theorem dot_at {s : List UInt8} {i : Nat} {r : List UInt8} (hr : s.drop (i + 1) = r) : Lx.fst (· == 46) r = (s.getD (i + 1) 0 == 46) := by rw [← hr, fst_getD (by decide)]
theorem get_dec {b : List UInt8} (h : b.length = 8) : Oct.getIntS b 0 8 = Ty.decS 21 b := by
  have h1 : Oct.cut b (0 : Int).toNat (8 : Int).toNat = b := by
    show (b.drop 0).take 8 = b
    rw [List.drop_zero, List.take_of_length_le (by omega)]
  have hg : Oct.getS b 0 8 = (Oct.le b, 0) := by
    unfold Oct.getS
    rw [if_pos ⟨by decide, by decide, by decide, by omega⟩, if_neg (by omega), h1]
  unfold Oct.getIntS Ty.decS
  rw [hg, if_pos rfl, if_neg (by decide), if_neg (by rw [h]; decide), if_neg (by rw [h]; decide), if_pos (by decide)]
  rfl
theorem nib_hv {c : UInt8} (h : Lx.isH c = true) : Oct.nib c = some (Lx.hv c) := by
  unfold Lx.isH Ty.isD at h
  unfold Oct.nib Lx.hv Ty.isD
  by_cases h1 : 48 ≤ c.toNat ∧ c.toNat ≤ 57
  · rw [if_pos h1, if_pos (by simpa using h1)]
  · have : 97 ≤ c.toNat ∧ c.toNat ≤ 102 := by simpa [h1] using h
    rw [if_neg h1, if_pos this, if_neg (by simpa using h1)]
theorem hex_two {d : List UInt8} (h : d.all Lx.isH = true) (h4 : d.length ≤ 4) : ∃ a b : UInt8, Oct.unhexS (([48, 48, 48, 48] ++ d).drop d.length) = ([a, b], 0) ∧ 256 * a.toNat + b.toNat = Lx.hexV d := by
  have two : ∀ p q u v : UInt8, Lx.isH p = true → Lx.isH q = true → Lx.isH u = true → Lx.isH v = true →
      Oct.unhexS [p, q, u, v] = ([UInt8.ofNat (16 * Lx.hv p + Lx.hv q), UInt8.ofNat (16 * Lx.hv u + Lx.hv v)], 0) := fun p q u v a b c e => by
    unfold Oct.unhexS
    simp only [Oct.pairs, nib_hv a, nib_hv b, nib_hv c, nib_hv e]
  have z : Lx.isH 48 = true := by decide
  have hz : Lx.hv 48 = 0 := by decide
  match d, h, h4 with
  | [], _, _ => exact ⟨_, _, two 48 48 48 48 z z z z, by rw [hz]; decide⟩
  | [p], h, _ =>
    have h1 : Lx.isH p = true := by simpa using h
    have k1 := hv_lt h1
    refine ⟨_, _, two 48 48 48 p z z z h1, ?_⟩
    simp only [Lx.hexV, List.foldl_cons, List.foldl_nil, hz, UInt8.toNat_ofNat']
    omega
  | [p, q], h, _ =>
    have h1 : Lx.isH p = true ∧ Lx.isH q = true := by simpa using h
    have k1 := hv_lt h1.1
    have k2 := hv_lt h1.2
    refine ⟨_, _, two 48 48 p q z z h1.1 h1.2, ?_⟩
    simp only [Lx.hexV, List.foldl_cons, List.foldl_nil, hz, UInt8.toNat_ofNat']
    omega
  | [p, q, u], h, _ =>
    have h1 : Lx.isH p = true ∧ Lx.isH q = true ∧ Lx.isH u = true := by simpa using h
    have k1 := hv_lt h1.1
    have k2 := hv_lt h1.2.1
    have k3 := hv_lt h1.2.2
    refine ⟨_, _, two 48 p q u z h1.1 h1.2.1 h1.2.2, ?_⟩
    simp only [Lx.hexV, List.foldl_cons, List.foldl_nil, hz, UInt8.toNat_ofNat']
    omega
  | [p, q, u, v], h, _ =>
    have h1 : Lx.isH p = true ∧ Lx.isH q = true ∧ Lx.isH u = true ∧ Lx.isH v = true := by simpa using h
    have k1 := hv_lt h1.1
    have k2 := hv_lt h1.2.1
    have k3 := hv_lt h1.2.2.1
    have k4 := hv_lt h1.2.2.2
    refine ⟨_, _, two p q u v h1.1 h1.2.1 h1.2.2.1 h1.2.2.2, ?_⟩
    simp only [Lx.hexV, List.foldl_cons, List.foldl_nil, UInt8.toNat_ofNat']
    omega
end Go.Proofs.YtmolmpgampmolaaGreat
