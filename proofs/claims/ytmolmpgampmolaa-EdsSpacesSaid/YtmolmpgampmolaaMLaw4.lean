/-
  Walk: EdsSpaces.
  Conditions: none.
-/
import Derived.Test.YtmolmpgampmolaaJ18
import Derived.Test.YtmolmpgampmolaaJ21
import Derived.Test.YtmolmpgampmolaaJ24
namespace Go.Proofs.Ytmolmpgampmolaa
set_option linter.unusedVariables false
set_option linter.unusedSimpArgs false
open Go.RowKit Go.Sort
set_option maxRecDepth 100000 in
set_option maxHeartbeats 8000000 in
theorem EdsSpaces_walk (W : World) (s0 : ByteArray) (ws : s0.size ≤ maxLen) : Calls Try.prog 3 #[.string s0] W fun e w' => e = .returned (.bool true) ∧ Below W.heap.size W w' := by
  obtain ⟨s, rfl⟩ := T_of s0
  have hT := T_size s
  have KN := Lib.hid (fun w => known17_any w)
  by_cases hbig : 2000 < s.length
  · go_enter Try.func3, Try.ntmps3
    go_wp2_with fail
    refine (KN.out _).mono ?_
    rintro e w8 ⟨rfl, b8⟩
    go_wp2_with fail
    go_ret
    exact ⟨rfl, b8⟩
  have hs20 : s.length ≤ 2000 := by omega
  have SC := Scan_any s W (by omega)
  have PA := fun w => EParse_any s w (by omega)
  have hspa := fun ts q => Ed.parse_spa (ts := ts) (q := q) hs20
  unfold ScanPost at SC
  generalize Lx.scanS s = sc at *
  obtain ⟨ts, z, q⟩ := sc
  dsimp only at SC
  by_cases hz : z = 0
  case neg =>
    have hz2 : (z != 0) = true := by simpa using hz
    replace SC := Lib.hid SC
    clear hz hspa PA hbig
    go_enter Try.func3, Try.ntmps3
    go_wp2_with fail
    refine (SC.out).mono ?_
    rintro e w1 ⟨A1, c1, rfl, _, b1⟩
    go_wp2_with fail
    refine (KN.out _).mono ?_
    rintro e w8 ⟨rfl, b8⟩
    go_wp2_with fail
    go_ret
    exact ⟨rfl, below_step b1 b8 (Nat.le_refl _)⟩
  subst hz
  obtain ⟨hl12, hpar⟩ := hspa ts q rfl
  have HPAR := Lib.hid hpar
  have HL12 := Lib.hid hl12
  replace SC := Lib.hid SC
  replace PA := Lib.hid PA
  clear hspa hpar hl12 hbig
  go_enter Try.func3, Try.ntmps3
  go_wp2_with fail
  refine (SC.out).mono ?_
  rintro e w1 ⟨A1, c1, rfl, o1, b1⟩
  have R1 := o1.rs
  have hlt := R1.lt
  clear SC o1
  go_wp2_with fail
  go_loopw [6, 7] (fun v i wr => ∃ (k : Nat) (acc : List UInt8), k ≤ ts.length ∧ v = .string (T acc) ∧ i = .int .i64 k ∧ wr = w1 ∧ Hid (acc ++ Ed.spaS k (ts.drop k) = Ed.spaS 0 ts)) (fun _ i _ => ts.length - (intOf i).toNat)
  case atStart => exact ⟨0, [], Nat.zero_le _, rfl, rfl, rfl, Lib.hid rfl⟩
  case round =>
    obtain ⟨k, acc, hk, rfl, rfl, rfl, HA⟩ := hrel
    by_cases hkn : k < ts.length
    · obtain ⟨b, o, rfl, hbB, q0, q1, q2, q3⟩ := R1.at_ hkn
      have hst := Ed.spa_step hkn
      rw [show ts.getD k Lx.tk0 = ts.getD k tkz from rfl] at hst
      generalize ts.getD k tkz = t at *
      obtain ⟨tk, tx, tn, tp⟩ := t
      dsimp only at q0 q1 q2 q3 hst
      have hacc : acc.length + tx.length + (Ed.sepS k).length ≤ 12000 := by
        have h1 := HA.out
        rw [hst] at h1
        have h2 := congrArg List.length h1
        simp only [List.length_append] at h2
        have h3 := HL12.out
        omega
      have i0 : (0 : Int) ≤ (k : Int) := by omega
      have i1 : (k : Int) < (ts.length : Int) := by omega
      obtain ⟨u1, hu1, nu1, s1⟩ := add_ex acc tx 12000 (by omega) (by decide)
      obtain ⟨u2, hu2, nu2, s2⟩ := add_ex u1 (Ed.sepS k) 12005 (by have := Ed.sep_len k; omega) (by decide)
      have HU : Hid (u2 ++ Ed.spaS (k + 1) (ts.drop (k + 1)) = Ed.spaS 0 ts) := Lib.hid (by
        rw [← HA.out, hst, hu2, hu1]
        simp only [List.append_assoc])
      have hrem : Int.tmod (k : Int) 3 = ((k % 3 : Nat) : Int) := rfl
      have h3 : k % 3 < 3 := Nat.mod_lt _ (by decide)
      unfold Ed.sepS at s2
      clear hst hu1 hu2 nu1 nu2 hacc q0 q2 q3
      rcases (show k % 3 = 0 ∨ k % 3 = 1 ∨ k % 3 = 2 by omega) with h | h | h
      · rw [h, if_pos rfl] at s2
        rw [h] at hrem
        replace hrem : Int.tmod (k : Int) 3 = 0 := hrem
        replace s2 : ∀ w, (Op.stringOp .add (T u1) (⟨#[32, 9]⟩ : ByteArray)).run Try.prog w = .ok (.string (T u2)) w := s2
        clear h3 h
        go_wp2_with fail
        go_roundw
        case rel => exact ⟨k + 1, u2, by omega, rfl, by go_num, trivial, HU⟩
        case measure => simp [intOf] <;> omega
      · rw [h, if_neg (by decide), if_pos rfl] at s2
        rw [h] at hrem
        replace hrem : Int.tmod (k : Int) 3 = 1 := hrem
        replace s2 : ∀ w, (Op.stringOp .add (T u1) (⟨#[10]⟩ : ByteArray)).run Try.prog w = .ok (.string (T u2)) w := s2
        clear h3 h
        go_wp2_with fail
        go_roundw
        case rel => exact ⟨k + 1, u2, by omega, rfl, by go_num, trivial, HU⟩
        case measure => simp [intOf] <;> omega
      · rw [h, if_neg (by decide), if_neg (by decide)] at s2
        rw [h] at hrem
        replace hrem : Int.tmod (k : Int) 3 = 2 := hrem
        replace s2 : ∀ w, (Op.stringOp .add (T u1) (⟨#[33, 32, 110, 111, 10]⟩ : ByteArray)).run Try.prog w = .ok (.string (T u2)) w := s2
        clear h3 h
        go_wp2_with fail
        go_roundw
        case rel => exact ⟨k + 1, u2, by omega, rfl, by go_num, trivial, HU⟩
        case measure => simp [intOf] <;> omega
    · obtain rfl : k = ts.length := by omega
      have hfin := HA.out
      rw [List.drop_length, Ed.spaS, List.append_nil] at hfin
      subst hfin
      have PB := fun w => EParse_any (Ed.spaS 0 ts) w (by have := HL12.out; omega)
      have hT2 := T_size (Ed.spaS 0 ts)
      generalize Ed.spaS 0 ts = tt at *
      generalize Ed.parseS tt = pt at *
      generalize Ed.parseS s = ps at *
      obtain ⟨e1, z1, q1⟩ := ps
      obtain ⟨e2, z2, q2⟩ := pt
      unfold ParPost at PA PB
      dsimp only at PA PB HPAR
      replace PB := Lib.hid PB
      clear R1 HA hkn hk hlt
      go_wp2_with fail
      refine (PA.out _).mono ?_
      rintro e w2 ⟨A2, c2, rfl, o2, b2⟩
      have d2 := below_step b1 b2 (Nat.le_refl _)
      clear PA b1
      go_wp2_with fail
      refine (PB.out _).mono ?_
      rintro e w3 ⟨A3, c3, rfl, o3, b3⟩
      have d3 := below_step d2 b3 (Nat.le_refl _)
      have o2' := o2.below b3
      clear PB b2 b3 o2 d2
      by_cases h8 : 8192 < tt.length
      · have h8' : (8192 : Int) < (tt.length : Int) := by omega
        clear o2' o3
        go_wp2_with fail
        refine (KN.out _).mono ?_
        rintro e w8 ⟨rfl, b8⟩
        go_wp2_with fail
        go_ret
        exact ⟨rfl, below_step d3 b8 (Nat.le_refl _)⟩
      · obtain ⟨p1, p2⟩ := HPAR.out (by omega)
        subst p1 p2
        have h8' : ¬ (8192 : Int) < (tt.length : Int) := by omega
        have h8d : decide (8192 < tt.length) = false := decide_eq_false h8
        have AL := Lib.hid (RAll15_eq w3 o2'.ren o3.ren (Nat.le_refl _) (Nat.le_refl _) (Nat.le_refl _) (Nat.le_refl _))
        clear o2' o3
        go_wp2_with fail
        refine (AL.out).mono ?_
        rintro e w5 ⟨rfl, b5⟩
        have d5 := below_step d3 b5 (Nat.le_refl _)
        go_wp2_with fail
        refine (KN.out _).mono ?_
        rintro e w8 ⟨rfl, b8⟩
        go_wp2_with fail
        go_ret
        exact ⟨rfl, below_step d5 b8 (Nat.le_refl _)⟩
end Go.Proofs.Ytmolmpgampmolaa
