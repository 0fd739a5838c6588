/-
  Walks: the reference of package lex: kinds of bytes, run, skip, quoted, at.
  Conditions: none.
-/
import Derived.Test.YtnppihlalhaldaaLexTok
namespace Go.Proofs.Ytnppihlalhaldaa
set_option linter.unusedVariables false
set_option linter.unusedSimpArgs false
open Go.RowKit
theorem ref_letter (c : UInt8) (w : World) : Calls Try.prog 31 #[.int .u8 (c.toNat : Int)] w fun e w' => e = .returned (.bool (Lx.isL c)) ∧ w' = w := by
  have hc := byte_lt c
  by_cases h1 : 97 ≤ c.toNat
  all_goals
    go_enter Try.func31, Try.ntmps31
    go_wp2_with fail
    go_ret
    exact ⟨ret_bool (by rw [Bool.eq_iff_iff]; simp [Lx.isL] <;> omega), rfl⟩
theorem ref_digit (c : UInt8) (w : World) : Calls Try.prog 36 #[.int .u8 (c.toNat : Int)] w fun e w' => e = .returned (.bool (Ty.isD c)) ∧ w' = w := by
  have hc := byte_lt c
  by_cases h1 : 48 ≤ c.toNat
  all_goals
    go_enter Try.func36, Try.ntmps36
    go_wp2_with fail
    go_ret
    exact ⟨ret_bool (by rw [Bool.eq_iff_iff]; simp [Ty.isD] <;> omega), rfl⟩
theorem ref_hex (c : UInt8) (w : World) : Calls Try.prog 34 #[.int .u8 (c.toNat : Int)] w fun e w' => e = .returned (.bool (Lx.isH c)) ∧ w' = w := by
  have hc := byte_lt c
  have D := ref_digit c w
  generalize hd : Ty.isD c = d at *
  replace D := Lib.hid D
  have HD := Lib.hid hd; clear hd
  by_cases h1 : 97 ≤ c.toNat <;> cases d
  all_goals
    go_enter Try.func34, Try.ntmps34
    go_wp2_with fail
    refine (D.out).mono ?_
    rintro e _ ⟨rfl, rfl⟩
    go_wp2_with fail
    go_ret
    exact ⟨ret_bool (by rw [Bool.eq_iff_iff]; simp [Lx.isH, HD.out] <;> omega), rfl⟩
theorem ref_blank (c : UInt8) (w : World) : Calls Try.prog 30 #[.int .u8 (c.toNat : Int)] w fun e w' => e = .returned (.bool (Lx.blank c)) ∧ w' = w := by
  by_cases h1 : c = 32
  · subst h1
    go_enter Try.func30, Try.ntmps30
    go_wp2_with fail
    go_ret
    exact ⟨rfl, rfl⟩
  by_cases h2 : c = 9
  · subst h2
    go_enter Try.func30, Try.ntmps30
    go_wp2_with fail
    go_ret
    exact ⟨rfl, rfl⟩
  by_cases h3 : c = 10
  · subst h3
    go_enter Try.func30, Try.ntmps30
    go_wp2_with fail
    go_ret
    exact ⟨rfl, rfl⟩
  by_cases h4 : c = 13
  · subst h4
    go_enter Try.func30, Try.ntmps30
    go_wp2_with fail
    go_ret
    exact ⟨rfl, rfl⟩
  · have e1 := byte_ne (k := 32) h1 rfl
    have e2 := byte_ne (k := 9) h2 rfl
    have e3 := byte_ne (k := 10) h3 rfl
    have e4 := byte_ne (k := 13) h4 rfl
    go_enter Try.func30, Try.ntmps30
    go_wp2_with fail
    go_ret
    exact ⟨ret_bool (by simp [Lx.blank, h1, h2, h3, h4]), rfl⟩
theorem getD_drop (s : List UInt8) (i k : Nat) : (s.drop i).getD k 0 = s.getD (i + k) 0 := by
  rw [List.getD_eq_getElem?_getD, List.getElem?_drop, List.getD_eq_getElem?_getD]
theorem drop_cons {s : List UInt8} {k : Nat} (h : k < s.length) : s.drop k = s.getD k 0 :: s.drop (k + 1) := by
  rw [List.drop_eq_getElem_cons h, List.getD_eq_getElem?_getD, List.getElem?_eq_getElem h]
  rfl
set_option maxHeartbeats 2000000 in
theorem run_digits (s : List UInt8) (i : Nat) (w : World) (hs : s.length ≤ 1000000) (hi : i ≤ 2000000) :
    Calls Try.prog 32 #[.string (T s), .int .i64 (i : Int), .int .i64 1] w fun e w' => e = .returned (.int .i64 (((s.drop i).takeWhile Ty.isD).length : Int)) ∧ w' = w := by
  have hT := T_size s
  have hdl : (s.drop i).length = s.length - i := List.length_drop ..
  go_enter Try.func32, Try.ntmps32
  go_wp2_with fail
  go_loop [7] (fun v => ∃ k : Nat, k ≤ s.length - i ∧ v = .int .i64 k ∧ Hid (((s.drop i).take k).all Ty.isD = true)) (fun v => s.length - i - (intOf v).toNat)
  case atStart => exact ⟨0, by omega, rfl, Lib.hid rfl⟩
  case round =>
    obtain ⟨k, hk, rfl, hall⟩ := hrel
    by_cases hlt : i + k < s.length
    · have hat := fun w => run_T_at s .i64 ((i : Int) + k) (i + k) (by omega) hlt w
      have hgd := getD_drop s i k
      have D := ref_digit (s.getD (i + k) 0) w
      have L := ref_letter (s.getD (i + k) 0) w
      have H := ref_hex (s.getD (i + k) 0) w
      generalize s.getD (i + k) 0 = c at *
      cases hp : Ty.isD c with
      | true =>
        rw [hp] at D
        replace D := Lib.hid D; replace L := Lib.hid L; replace H := Lib.hid H
        have HT := Lib.hid (all_more hall.out (m := 1) (fun j a b => by rw [show j = k by omega, hgd]; exact hp) (by omega))
        clear hgd hp
        go_wp2_with fail
        refine (D.out).mono ?_
        rintro e _ ⟨rfl, rfl⟩
        go_wp2_with fail
        go_round
        case rel => exact ⟨k + 1, by omega, by go_num, HT⟩
        case measure => simp [intOf] <;> omega
      | false =>
        rw [hp] at D
        replace D := Lib.hid D; replace L := Lib.hid L; replace H := Lib.hid H
        have HT := Lib.hid (tw_cut hall.out (by omega) (by rw [hgd]; exact hp))
        clear hgd hp
        go_wp2_with fail
        refine (D.out).mono ?_
        rintro e _ ⟨rfl, rfl⟩
        go_wp2_with fail
        go_ret
        exact ⟨by rw [HT.out, List.length_take, Nat.min_eq_left (by omega)]; rfl, rfl⟩
    · have hz : k = s.length - i := by omega
      have HT := Lib.hid (tw_all (s := s.drop i) (p := Ty.isD) (by have := hall.out; rwa [List.take_of_length_le (by omega)] at this))
      have HZ := Lib.hid hz
      clear hz
      go_wp2_with fail
      go_ret
      exact ⟨by rw [HT.out, hdl, ← HZ.out]; rfl, rfl⟩
set_option maxHeartbeats 2000000 in
theorem run_hexs (s : List UInt8) (i : Nat) (w : World) (hs : s.length ≤ 1000000) (hi : i ≤ 2000000) :
    Calls Try.prog 32 #[.string (T s), .int .i64 (i : Int), .int .i64 2] w fun e w' => e = .returned (.int .i64 (((s.drop i).takeWhile Lx.isH).length : Int)) ∧ w' = w := by
  have hT := T_size s
  have hdl : (s.drop i).length = s.length - i := List.length_drop ..
  go_enter Try.func32, Try.ntmps32
  go_wp2_with fail
  go_loop [7] (fun v => ∃ k : Nat, k ≤ s.length - i ∧ v = .int .i64 k ∧ Hid (((s.drop i).take k).all Lx.isH = true)) (fun v => s.length - i - (intOf v).toNat)
  case atStart => exact ⟨0, by omega, rfl, Lib.hid rfl⟩
  case round =>
    obtain ⟨k, hk, rfl, hall⟩ := hrel
    by_cases hlt : i + k < s.length
    · have hat := fun w => run_T_at s .i64 ((i : Int) + k) (i + k) (by omega) hlt w
      have hgd := getD_drop s i k
      have D := ref_digit (s.getD (i + k) 0) w
      have L := ref_letter (s.getD (i + k) 0) w
      have H := ref_hex (s.getD (i + k) 0) w
      generalize s.getD (i + k) 0 = c at *
      cases hp : Lx.isH c with
      | true =>
        rw [hp] at H
        replace D := Lib.hid D; replace L := Lib.hid L; replace H := Lib.hid H
        have HT := Lib.hid (all_more hall.out (m := 1) (fun j a b => by rw [show j = k by omega, hgd]; exact hp) (by omega))
        clear hgd hp
        go_wp2_with fail
        refine (D.out).mono ?_
        rintro e _ ⟨rfl, rfl⟩
        go_wp2_with fail
        refine (H.out).mono ?_
        rintro e _ ⟨rfl, rfl⟩
        go_wp2_with fail
        go_round
        case rel => exact ⟨k + 1, by omega, by go_num, HT⟩
        case measure => simp [intOf] <;> omega
      | false =>
        rw [hp] at H
        replace D := Lib.hid D; replace L := Lib.hid L; replace H := Lib.hid H
        have HT := Lib.hid (tw_cut hall.out (by omega) (by rw [hgd]; exact hp))
        clear hgd hp
        go_wp2_with fail
        refine (D.out).mono ?_
        rintro e _ ⟨rfl, rfl⟩
        go_wp2_with fail
        refine (H.out).mono ?_
        rintro e _ ⟨rfl, rfl⟩
        go_wp2_with fail
        go_ret
        exact ⟨by rw [HT.out, List.length_take, Nat.min_eq_left (by omega)]; rfl, rfl⟩
    · have hz : k = s.length - i := by omega
      have HT := Lib.hid (tw_all (s := s.drop i) (p := Lx.isH) (by have := hall.out; rwa [List.take_of_length_le (by omega)] at this))
      have HZ := Lib.hid hz
      clear hz
      go_wp2_with fail
      go_ret
      exact ⟨by rw [HT.out, hdl, ← HZ.out]; rfl, rfl⟩
set_option maxHeartbeats 2000000 in
theorem run_words (s : List UInt8) (i : Nat) (w : World) (hs : s.length ≤ 1000000) (hi : i ≤ 2000000) :
    Calls Try.prog 32 #[.string (T s), .int .i64 (i : Int), .int .i64 0] w fun e w' => e = .returned (.int .i64 (((s.drop i).takeWhile Lx.inW).length : Int)) ∧ w' = w := by
  have hT := T_size s
  have hdl : (s.drop i).length = s.length - i := List.length_drop ..
  go_enter Try.func32, Try.ntmps32
  go_wp2_with fail
  go_loop [7] (fun v => ∃ k : Nat, k ≤ s.length - i ∧ v = .int .i64 k ∧ Hid (((s.drop i).take k).all Lx.inW = true)) (fun v => s.length - i - (intOf v).toNat)
  case atStart => exact ⟨0, by omega, rfl, Lib.hid rfl⟩
  case round =>
    obtain ⟨k, hk, rfl, hall⟩ := hrel
    by_cases hlt : i + k < s.length
    · have hat := fun w => run_T_at s .i64 ((i : Int) + k) (i + k) (by omega) hlt w
      have hgd := getD_drop s i k
      have D := ref_digit (s.getD (i + k) 0) w
      have L := ref_letter (s.getD (i + k) 0) w
      have H := ref_hex (s.getD (i + k) 0) w
      generalize s.getD (i + k) 0 = c at *
      cases hd : Ty.isD c with
      | true =>
        rw [hd] at D
        have hp : Lx.inW c = true := by unfold Lx.inW; rw [hd]; simp
        clear hd
        replace D := Lib.hid D; replace L := Lib.hid L; replace H := Lib.hid H
        have HT := Lib.hid (all_more hall.out (m := 1) (fun j a b => by rw [show j = k by omega, hgd]; exact hp) (by omega))
        clear hgd hp
        go_wp2_with fail
        refine (D.out).mono ?_
        rintro e _ ⟨rfl, rfl⟩
        go_wp2_with fail
        go_round
        case rel => exact ⟨k + 1, by omega, by go_num, HT⟩
        case measure => simp [intOf] <;> omega
      | false =>
        rw [hd] at D
        cases hl : Lx.isL c with
        | true =>
          rw [hl] at L
          have hp : Lx.inW c = true := by unfold Lx.inW; rw [hl]; rfl
          clear hd hl
          replace D := Lib.hid D; replace L := Lib.hid L; replace H := Lib.hid H
          have HT := Lib.hid (all_more hall.out (m := 1) (fun j a b => by rw [show j = k by omega, hgd]; exact hp) (by omega))
          clear hgd hp
          go_wp2_with fail
          refine (D.out).mono ?_
          rintro e _ ⟨rfl, rfl⟩
          go_wp2_with fail
          refine (L.out).mono ?_
          rintro e _ ⟨rfl, rfl⟩
          go_wp2_with fail
          go_round
          case rel => exact ⟨k + 1, by omega, by go_num, HT⟩
          case measure => simp [intOf] <;> omega
        | false =>
          rw [hl] at L
          by_cases h95 : c = 95
          · have hp : Lx.inW c = true := by rw [h95]; rfl
            have hc : ((c.toNat : Int) == 95) = true := by rw [h95]; rfl
            clear hd hl h95
            replace D := Lib.hid D; replace L := Lib.hid L; replace H := Lib.hid H
            have HT := Lib.hid (all_more hall.out (m := 1) (fun j a b => by rw [show j = k by omega, hgd]; exact hp) (by omega))
            clear hgd hp
            go_wp2_with fail
            refine (D.out).mono ?_
            rintro e _ ⟨rfl, rfl⟩
            go_wp2_with fail
            refine (L.out).mono ?_
            rintro e _ ⟨rfl, rfl⟩
            go_wp2_with fail
            go_round
            case rel => exact ⟨k + 1, by omega, by go_num, HT⟩
            case measure => simp [intOf] <;> omega
          · have hp : Lx.inW c = false := by unfold Lx.inW; rw [hd, hl]; simpa using h95
            have hc := byte_ne (k := 95) h95 rfl
            clear hd hl h95
            replace D := Lib.hid D; replace L := Lib.hid L; replace H := Lib.hid H
            have HT := Lib.hid (tw_cut hall.out (by omega) (by rw [hgd]; exact hp))
            clear hgd hp
            go_wp2_with fail
            refine (D.out).mono ?_
            rintro e _ ⟨rfl, rfl⟩
            go_wp2_with fail
            refine (L.out).mono ?_
            rintro e _ ⟨rfl, rfl⟩
            go_wp2_with fail
            go_ret
            exact ⟨by rw [HT.out, List.length_take, Nat.min_eq_left (by omega)]; rfl, rfl⟩
    · have hz : k = s.length - i := by omega
      have HT := Lib.hid (tw_all (s := s.drop i) (p := Lx.inW) (by have := hall.out; rwa [List.take_of_length_le (by omega)] at this))
      have HZ := Lib.hid hz
      clear hz
      go_wp2_with fail
      go_ret
      exact ⟨by rw [HT.out, hdl, ← HZ.out]; rfl, rfl⟩
theorem ref_at (s : List UInt8) (i : Nat) (w : World) (hs : s.length ≤ 1000000) (hi : i ≤ 2000000) :
    Calls Try.prog 33 #[.string (T s), .int .i64 (i : Int)] w fun e w' => e = .returned (.int .u8 ((s.getD i 0).toNat : Int)) ∧ w' = w := by
  have hT := T_size s
  by_cases hlt : i < s.length
  · have hat := fun w => run_T_at s .i64 (i : Int) i rfl hlt w
    generalize s.getD i 0 = c at *
    go_enter Try.func33, Try.ntmps33
    go_wp2_with fail
    go_ret
    exact ⟨rfl, rfl⟩
  · have hz : s.getD i 0 = 0 := by rw [List.getD_eq_getElem?_getD, List.getElem?_eq_none (by omega)]; rfl
    have HZ := Lib.hid hz; clear hz
    go_enter Try.func33, Try.ntmps33
    go_wp2_with fail
    go_ret
    exact ⟨by rw [HZ.out]; rfl, rfl⟩
end Go.Proofs.Ytnppihlalhaldaa
