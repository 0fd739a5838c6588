/-
  Texts joined: EdsLin, EdsKnown, DicOwn.
  Conditions: none.
-/
import Derived.Test.YtmolmpgampmolaaGreatJ04
import Derived.Test.YtmolmpgampmolaaGreatJ06
import Derived.Test.YtmolmpgampmolaaGreatJ16
import Derived.Test.YtmolmpgampmolaaGreatJ20
import Derived.Test.YtmolmpgampmolaaGreatJ21
import Derived.KernelRfl
/-
  Walk: Line of layer 17.
  Conditions: none.
-/
namespace Go.Proofs.YtmolmpgampmolaaGreat.Ed
set_option linter.unusedVariables false
set_option linter.unusedSimpArgs false
open Ent
theorem right_more {e : En} (h : rightS e = 0) : 1 ≤ e.index ∧ e.index ≤ 65535 ∧ 0 ≤ e.sub ∧ e.sub ≤ 255 ∧ e.name.length ≤ 16 ∧ (-9223372036854775808 ≤ e.low ∧ e.low ≤ 9223372036854775807) ∧ (-9223372036854775808 ≤ e.high ∧ e.high ≤ 9223372036854775807) ∧ (0 ≤ e.max ∧ e.max ≤ 256) ∧ (Ty.showS e.type e.dflt).2 = 0 := by
  obtain ⟨h1, h2, h3, h4, h5, h6, h7, h8, h9⟩ := right_iff h
  have hl := lim_int e.type
  refine ⟨h1, h2, h3, h4, ?_, ?_⟩
  · unfold nameB at h5
    simp only [Bool.and_eq_true, decide_eq_true_eq] at h5
    exact h5.1.1.2
  · have hlim : (-9223372036854775808 ≤ e.low ∧ e.low ≤ 9223372036854775807) ∧ (-9223372036854775808 ≤ e.high ∧ e.high ≤ 9223372036854775807) ∧ (0 ≤ e.max ∧ e.max ≤ 256) := by
      unfold limB at h8
      split at h8
      · unfold numberedB at h8
        simp only [decide_eq_true_eq] at h8
        omega
      · unfold sizedB at h8
        simp only [Bool.and_eq_true, decide_eq_true_eq] at h8
        omega
    refine ⟨hlim.1, hlim.2.1, hlim.2.2, ?_⟩
    have hc : Ty.checkS e.type 256 e.dflt = 0 := by
      unfold valS at h9
      split at h9
      · rename_i hb
        rw [chk_num (num_named hb) hb]
        unfold numS at h9
        split at h9
        · cases h9
        · split at h9
          · cases h9
          · split at h9
            · cases h9
            · rename_i h0; simpa using h0
      · rename_i hb
        split at h9
        · rename_i h0
          unfold Ty.checkS at h0 ⊢
          rw [if_neg h6, if_neg hb] at h0 ⊢
          split at h0
          · cases h0
          · rename_i h10
            rw [if_neg (by omega)]
            exact h0
        · split at h9
          · cases h9
          · split at h9 <;> cases h9
    rw [show_val, if_neg (by rw [hc]; simp)]
    repeat' split
    all_goals rfl
theorem line_ok {e : En} (h : rightS e = 0) : lineS e = (lineT e, 0) := by unfold lineS; rw [if_neg (by rw [h]; simp)]
theorem line_bad {e : En} (h : rightS e ≠ 0) : lineS e = ([], rightS e) := by unfold lineS; rw [if_pos h]
end Go.Proofs.YtmolmpgampmolaaGreat.Ed
namespace Go.Proofs.YtmolmpgampmolaaGreat
set_option linter.unusedVariables false
set_option linter.unusedSimpArgs false
open Go.RowKit Go.Sort
theorem add_ex (s t : List UInt8) (N : Nat) (h : s.length + t.length ≤ N) (hN : N ≤ 1000000) : ∃ u, u = s ++ t ∧ u.length ≤ N ∧ ∀ w, (Op.stringOp .add (T s) (T t)).run Tryz.prog w = .ok (.string (T u)) w := ⟨s ++ t, rfl, by simp only [List.length_append]; exact h, fun w => run_T_add s t (by omega) w⟩
theorem kd_len (t : Int) : (Ty.kd t).name.length ≤ 6 := by
  rcases Ty.kd_cases t with h | ⟨_, h⟩
  · rcases h with rfl | rfl | rfl | rfl | rfl | rfl | rfl | rfl | rfl | rfl | rfl <;> decide
  · rw [h]; decide
theorem word_len (a : Int) : (Ed.wordS a).length ≤ 5 := by
  unfold Ed.wordS
  repeat' split
  all_goals decide
set_option maxRecDepth 100000 in
set_option maxHeartbeats 8000000 in
theorem Line_any {A : Option Addr} {n c B : Nat} (e : Ent.En) (w : World) (hb : RB w B A n c e.dflt) (hB : B ≤ w.heap.size) (hn : e.name.length ≤ 1000000) : Calls Tryz.prog 14 #[enV e A n c] w (ShowPost (Ed.lineS e) w) := by
  have RG := fun (w1 : World) (q : Below w.heap.size w w1) => Right_any e w1 (hb.below (q.mono hB)) (Nat.le_trans hB q.size) (by omega)
  unfold enV at RG ⊢
  by_cases hr : Ent.rightS e = 0
  case neg =>
    have HV := Lib.hid (Ed.line_bad hr)
    have e1 : (Ent.rightS e != 0) = true := by simpa using hr
    generalize Ent.rightS e = rs at *
    have b0 := alloc_one w (.cells #[.int .i64 e.index, .int .i64 e.sub, .string (T e.name), .int .i64 e.type, .int .i64 e.access, .bool e.map, .bool e.store, .int .i64 e.max, .int .i64 e.low, .int .i64 e.high, .slice A n c] 31)
    have K0 := (Blk.new w 31 #[.int .i64 e.index, .int .i64 e.sub, .string (T e.name), .int .i64 e.type, .int .i64 e.access, .bool e.map, .bool e.store, .int .i64 e.max, .int .i64 e.low, .int .i64 e.high, .slice A n c]).eleven
    have RG1 := Lib.hid (RG _ b0)
    clear RG hr
    go_enter Tryz.func14, Tryz.ntmps14
    go_wp2_with fail
    refine (RG1.out).mono ?_
    rintro e w1 ⟨rfl, b1⟩
    go_wp2_with fail
    go_ret2
    exact show_mk HV.out (below_step b0 b1 (Nat.le_refl _))
  obtain ⟨x1, x2, y1, y2, nl, ⟨l1, l2⟩, ⟨u1, u2⟩, ⟨m1, m2⟩, sh⟩ := Ed.right_more hr
  have HV := Lib.hid (Ed.line_ok hr)
  rw [hr] at RG
  have LM := fun w => Limits_any e.type w
  unfold LimPost at LM
  have b0 := alloc_one w (.cells #[.int .i64 e.index, .int .i64 e.sub, .string (T e.name), .int .i64 e.type, .int .i64 e.access, .bool e.map, .bool e.store, .int .i64 e.max, .int .i64 e.low, .int .i64 e.high, .slice A n c] 31)
  have K0 := (Blk.new w 31 #[.int .i64 e.index, .int .i64 e.sub, .string (T e.name), .int .i64 e.type, .int .i64 e.access, .bool e.map, .bool e.store, .int .i64 e.max, .int .i64 e.low, .int .i64 e.high, .slice A n c])
  have RG1 := Lib.hid (RG _ b0)
  have F0 := K0.eleven
  replace LM := Lib.hid LM
  have DG := Lib.hid (fun n w h1 h2 => edigits_any n w h1 h2)
  have XX := Lib.hid (And.intro x1 x2)
  have YY := Lib.hid (And.intro y1 y2)
  have LL := Lib.hid (And.intro l1 l2)
  have UU := Lib.hid (And.intro u1 u2)
  have MM := Lib.hid (And.intro m1 m2)
  have SHC := Lib.hid sh
  obtain ⟨H, hH⟩ : ∃ H, H = Oct.hexS [UInt8.ofNat (e.index.toNat / 256), UInt8.ofNat (e.index.toNat % 256)] := ⟨_, rfl⟩
  have nH : H.length = 4 := by rw [hH, Oct.hexS_length]; rfl
  have hbytes : [Value.int .u8 (e.index / 256 % 256), Value.int .u8 (e.index % 256)] = [UInt8.ofNat (e.index.toNat / 256), UInt8.ofNat (e.index.toNat % 256)].map bv := by
    simp only [List.map_cons, List.map_nil, bv, UInt8.toNat_ofNat']
    congr 2 <;> (try congr 1) <;> (try congr 1) <;> omega
  have RBh := fun w1 : World => RB.lit w1 _ _ hbytes (n := 2) rfl (by decide)
  rw [show ([Value.int .u8 (e.index / 256 % 256), Value.int .u8 (e.index % 256)] : List Value).toArray = #[Value.int .u8 (e.index / 256 % 256), Value.int .u8 (e.index % 256)] from rfl] at RBh
  have HX := fun w1 : World => HexT _ (RBh w1).drew (by decide) (by simp [World.size_alloc])
  rw [← hH] at HX
  replace HX := Lib.hid HX
  have TN := Lib.hid (fun w => TName_any e.type w)
  have nD := numT_len e.sub
  have nT := kd_len e.type
  obtain ⟨S0, hS0, nS0, a0⟩ := add_ex [48, 120] H 6 (by rw [nH]; decide) (by decide)
  obtain ⟨S1, hS1, nS1, a1⟩ := add_ex S0 [58] 7 (by simp only [List.length_cons, List.length_nil]; omega) (by decide)
  obtain ⟨S2, hS2, nS2, a2⟩ := add_ex S1 (Ty.numT e.sub) 28 (by omega) (by decide)
  obtain ⟨N0, hN0, nN0, a3⟩ := add_ex [32] e.name 17 (by simp only [List.length_cons, List.length_nil]; omega) (by decide)
  obtain ⟨N1, hN1, nN1, a4⟩ := add_ex N0 [32] 18 (by simp only [List.length_cons, List.length_nil]; omega) (by decide)
  obtain ⟨N2, hN2, nN2, a5⟩ := add_ex N1 (Ty.kd e.type).name 24 (by omega) (by decide)
  obtain ⟨S3, hS3, nS3, a6⟩ := add_ex S2 N2 52 (by omega) (by decide)
  replace a0 : ∀ w, (Op.stringOp .add (⟨#[48, 120]⟩ : ByteArray) (T H)).run Tryz.prog w = .ok (.string (T S0)) w := a0
  replace a1 : ∀ w, (Op.stringOp .add (T S0) (⟨#[58]⟩ : ByteArray)).run Tryz.prog w = .ok (.string (T S1)) w := a1
  replace a3 : ∀ w, (Op.stringOp .add (⟨#[32]⟩ : ByteArray) (T e.name)).run Tryz.prog w = .ok (.string (T N0)) w := a3
  replace a4 : ∀ w, (Op.stringOp .add (T N0) (⟨#[32]⟩ : ByteArray)).run Tryz.prog w = .ok (.string (T N1)) w := a4
  have HS3 : Hid (S3 = [48, 120] ++ Oct.hexS [UInt8.ofNat (e.index.toNat / 256), UInt8.ofNat (e.index.toNat % 256)] ++ [58] ++ Ty.numT e.sub ++ [32] ++ e.name ++ [32] ++ (Ty.kd e.type).name) := Lib.hid (by
    rw [hS3, hN2, hN1, hN0, hS2, hS1, hS0, hH]
    simp only [List.append_assoc])
  have HLT := Lib.hid (show Ed.lineT e = _ from rfl)
  have HRG := Lib.hid (show Ed.rangeS e = _ from rfl)
  have DS := Lib.hid (DG.out e.sub)
  clear hH hS0 hS1 hS2 hN0 hN1 hN2 hS3 hbytes RBh nS0 nS1 nS2 nN0 nN1 nN2 nH nD nT
  clear RG hr x1 x2 y1 y2 l1 l2 u1 u2 m1 m2 sh
  go_enter Tryz.func14, Tryz.ntmps14
  go_wp2_with fail
  refine (RG1.out).mono ?_
  rintro e w1 ⟨rfl, b1⟩
  have K1 := K0.later b1
  have F1 := K1.eleven
  have d1 := below_step b0 b1 (Nat.le_refl _)
  clear F0 K0 b0 b1 RG1
  go_wp2_with fail
  refine (LM.out _).mono ?_
  rintro e w2 ⟨rfl, b2⟩
  have K2 := K1.later b2
  have d2 := below_step d1 b2 (Nat.le_refl _)
  have DS2 := Lib.hid (fun w => DS.out w (by have := YY.out; omega) (by have := YY.out; omega))
  have HX2 := Lib.hid (HX.out w2)
  clear F1 K1 d1 b2 LM HX
  have g0 := cell_regrown (K2.cell 0)
  have g1 := cell_regrown (K2.cell 1)
  go_wp2_with fail
  refine region_later (by kernel_rfl) ?_
  refine phase_later (by kernel_rfl) 7 (below_drew _) [0, 4, 11, 1, 5, 12, 2, 6, 3] rfl (by kernel_rfl) ?_
  simp only [picks, nth]
  repeat (go_big_quiet_step (fail))
  refine wpQuiet_nil ?_
  refine phase_op 7 6 rfl (by kernel_rfl) (by decide) ?_
  simp only [nth]
  go_wp2_with fail
  have b3 : Below w2.heap.size w2 (w2.alloc (.cells #[.int .u8 (e.index / 256 % 256), .int .u8 (e.index % 256)] 5)).drew := (alloc_one _ _).drew
  refine behind_later b3 ?_
  refine phase_op 8 5 rfl (by kernel_rfl) (by decide) ?_
  simp only [nth]
  go_wp2_with fail
  refine (HX2.out).mono ?_
  rintro e w4 ⟨rfl, b4⟩
  have b5 := below_step b3 b4 (Nat.le_refl _)
  clear HX2
  go_wp2_with fail
  refine behind_later b4 ?_
  refine phase_later (by kernel_rfl) 3 (Below.refl _ _) [9, 10] rfl (by kernel_rfl) ?_
  simp only [picks, nth]
  repeat (go_big_quiet_step (fail))
  refine wpQuiet_nil ?_
  refine phase_op 13 2 rfl (by kernel_rfl) (by decide) ?_
  simp only [nth]
  go_wp2_with fail
  refine (DS2.out _).mono ?_
  rintro e w5 ⟨rfl, b6⟩
  have b7 := below_step b5 b6 (Nat.le_refl _)
  clear DS2
  go_wp2_with fail
  refine behind_later b6 ?_
  refine phase_later (by kernel_rfl) 0 (Below.refl _ _) [14, 15] rfl (by kernel_rfl) ?_
  simp only [picks, nth]
  repeat (go_big_quiet_step (fail))
  refine wpQuiet_nil ?_
  refine phase_end (by kernel_rfl) ?_
  have K5 := K2.later b7
  have d5 := below_step d2 b7 (Nat.le_refl _)
  clear K2 d2 b3 b4 b5 b6 b7 g0 g1
  have g2 := cell_regrown (K5.cell 2)
  have g3 := cell_regrown (K5.cell 3)
  go_wp2_with fail
  refine region_later (by kernel_rfl) ?_
  refine phase_later (by kernel_rfl) 4 (below_drew _) [0, 1, 5, 2, 6, 3, 4] rfl (by kernel_rfl) ?_
  simp only [picks, nth]
  repeat (go_big_quiet_step (fail))
  refine wpQuiet_nil ?_
  refine phase_op 7 3 rfl (by kernel_rfl) (by decide) ?_
  simp only [nth]
  go_wp2_with fail
  refine (TN.out _).mono ?_
  rintro e w6 ⟨rfl, b6⟩
  have b7 : Below w5.heap.size w5 w6 := (below_drew w5).trans b6
  clear TN
  go_wp2_with fail
  refine behind_later b7 ?_
  refine phase_later (by kernel_rfl) 0 (Below.refl _ _) [8, 9, 10] rfl (by kernel_rfl) ?_
  simp only [picks, nth]
  repeat (go_big_quiet_step (fail))
  refine wpQuiet_nil ?_
  refine phase_end (by kernel_rfl) ?_
  have K6 := K5.later b7
  have d6 := below_step d5 b7 (Nat.le_refl _)
  clear K5 d5 b6 b7 g2 g3 a0 a1 a2 a3 a4 a5 a6
  go_upto_if 49 with fail
  have nM := numT_len e.max
  obtain ⟨M0, hM0, nM0, a0⟩ := add_ex [91] (Ty.numT e.max) 22 (by simp only [List.length_cons, List.length_nil]; omega) (by decide)
  obtain ⟨M1, hM1, nM1, a1⟩ := add_ex M0 [93] 23 (by simp only [List.length_cons, List.length_nil]; omega) (by decide)
  obtain ⟨S4, hS4, nS4, a2⟩ := add_ex S3 M1 75 (by omega) (by decide)
  replace a0 : ∀ w, (Op.stringOp .add (⟨#[91]⟩ : ByteArray) (T (Ty.numT e.max))).run Tryz.prog w = .ok (.string (T M0)) w := a0
  replace a1 : ∀ w, (Op.stringOp .add (T M0) (⟨#[93]⟩ : ByteArray)).run Tryz.prog w = .ok (.string (T M1)) w := a1
  have HS4 : Hid (S4 = S3 ++ ([91] ++ Ty.numT e.max ++ [93])) := Lib.hid (by rw [hS4, hM1, hM0])
  have DM := Lib.hid (fun w => DG.out e.max w (by have := MM.out; omega) (by have := MM.out; omega))
  have F6 := K6.eleven
  obtain ⟨nb, hnb⟩ : ∃ nb, nb = Ed.numB e.type := ⟨_, rfl⟩
  have hnb2 : (Ty.limS e.type).2.2 = nb := hnb.symm
  rw [hnb2]
  have HNB := Lib.hid hnb
  clear hS4 hM0 hM1 nM0 nM1 nM hnb hnb2
  go_cut [8] (fun v wx => ∃ S, v = .string (T S) ∧ Hid (S = S3 ++ (if nb = true then [] else [91] ++ Ty.numT e.max ++ [93])) ∧ S.length ≤ 75 ∧ Below w6.heap.size w6 wx)
  case first =>
    cases nb
    · go_wp2_with fail
      refine (DM.out _).mono ?_
      rintro e w7 ⟨rfl, b7⟩
      go_wp2_with fail
      go_meet
      exact ⟨S4, rfl, HS4, nS4, b7⟩
    · go_wp2_with fail
      go_meet
      exact ⟨S3, rfl, Lib.hid (by simp), by omega, Below.refl _ _⟩
  case rest =>
    obtain ⟨S, rfl, HS, nS, b7⟩ := hcut
    clear a0 a1 a2 DM HS4 nS4
    obtain ⟨w7, hw7⟩ : ∃ w, w = wc := ⟨wc, rfl⟩
    subst hw7
    have K7 := K6.later b7
    have d7 := below_step d6 b7 (Nat.le_refl _)
    have F7 := K7.eleven
    have WD := Lib.hid (fun w => word_any e.access w)
    have nW := word_len e.access
    obtain ⟨W0, hW0, nW0, a0⟩ := add_ex [32] (Ed.wordS e.access) 6 (by simp only [List.length_cons, List.length_nil]; omega) (by decide)
    obtain ⟨S5, hS5, nS5, a1⟩ := add_ex S W0 81 (by omega) (by decide)
    replace a0 : ∀ w, (Op.stringOp .add (⟨#[32]⟩ : ByteArray) (T (Ed.wordS e.access))).run Tryz.prog w = .ok (.string (T W0)) w := a0
    have HS5 : Hid (S5 = S ++ ([32] ++ Ed.wordS e.access)) := Lib.hid (by rw [hS5, hW0])
    obtain ⟨S6, hS6, nS6, a2⟩ := add_ex S5 [32, 109, 97, 112] 85 (by simp only [List.length_cons, List.length_nil]; omega) (by decide)
    replace a2 : ∀ w, (Op.stringOp .add (T S5) (⟨#[32, 109, 97, 112]⟩ : ByteArray)).run Tryz.prog w = .ok (.string (T S6)) w := a2
    have HS6 := Lib.hid hS6
    clear hW0 hS5 hS6 nW nW0 F6 K6 d6 b7
    go_wp2_with fail
    refine (WD.out _).mono ?_
    rintro e _ ⟨rfl, rfl⟩
    clear WD
    go_upto_if 64 with fail
    generalize hmp : e.map = mp at F7 K7 ⊢
    have HMP := Lib.hid hmp
    clear hmp a0 a1
    go_cut [8] (fun v wx => ∃ S', v = .string (T S') ∧ Hid (S' = S5 ++ (if mp = true then [32, 109, 97, 112] else [])) ∧ S'.length ≤ 85 ∧ wx = w7)
    case first =>
      cases mp
      · go_wp2_with fail
        go_meet
        exact ⟨S5, rfl, Lib.hid (by simp), by omega, rfl⟩
      · go_wp2_with fail
        go_meet
        exact ⟨S6, rfl, Lib.hid HS6.out, nS6, rfl⟩
    case rest =>
      obtain ⟨S', rfl, HS', nS', rfl⟩ := hcut
      clear a2 HS6
      obtain ⟨S7, hS7, nS7, a0⟩ := add_ex S' [32, 115, 116, 111, 114, 101] 91 (by simp only [List.length_cons, List.length_nil]; omega) (by decide)
      replace a0 : ∀ w, (Op.stringOp .add (T S') (⟨#[32, 115, 116, 111, 114, 101]⟩ : ByteArray)).run Tryz.prog w = .ok (.string (T S7)) w := a0
      have HS7 := Lib.hid hS7
      clear hS7
      go_upto_if 68 with fail
      generalize hst : e.store = st at F7 K7 ⊢
      have HST := Lib.hid hst
      clear hst
      go_cut [8] (fun v wx => ∃ S'', v = .string (T S'') ∧ Hid (S'' = S' ++ (if st = true then [32, 115, 116, 111, 114, 101] else [])) ∧ S''.length ≤ 91 ∧ wx = wc)
      case first =>
        cases st
        · go_wp2_with fail
          go_meet
          exact ⟨S', rfl, Lib.hid (by simp), by omega, rfl⟩
        · go_wp2_with fail
          go_meet
          exact ⟨S7, rfl, Lib.hid HS7.out, nS7, rfl⟩
      case rest =>
        obtain ⟨S'', rfl, HS'', nS'', rfl⟩ := hcut
        clear a0 HS7 nS7
        have EQ := fun w => eq_pair (Ty.limS e.type).1 (Ty.limS e.type).2.1 e.low e.high w
        have hrg : Ed.rangeS e = if ((Ty.limS e.type).1 == e.low && (Ty.limS e.type).2.1 == e.high) = true then [] else [32, 105, 110, 32] ++ Ty.numT e.low ++ [46, 46] ++ Ty.numT e.high := by
          unfold Ed.rangeS
          by_cases h1 : (Ty.limS e.type).1 = e.low
          · by_cases h2 : (Ty.limS e.type).2.1 = e.high
            · rw [if_neg (by rintro (h | h); exact h h1; exact h h2), if_pos (by rw [h1, h2]; simp)]
            · rw [if_pos (.inr h2), if_neg (by simp [h2])]
          · rw [if_pos (.inl h1), if_neg (by simp [h1])]
        generalize ((Ty.limS e.type).1 == e.low && (Ty.limS e.type).2.1 == e.high) = r at EQ hrg
        have HRR := Lib.hid hrg
        have n1 := numT_len e.low
        have n2 := numT_len e.high
        obtain ⟨R0, hR0, nR0, a0⟩ := add_ex [32, 105, 110, 32] (Ty.numT e.low) 25 (by simp only [List.length_cons, List.length_nil]; omega) (by decide)
        obtain ⟨R1, hR1, nR1, a1⟩ := add_ex R0 [46, 46] 27 (by simp only [List.length_cons, List.length_nil]; omega) (by decide)
        obtain ⟨R2, hR2, nR2, a2⟩ := add_ex R1 (Ty.numT e.high) 48 (by omega) (by decide)
        obtain ⟨S8, hS8, nS8, a3⟩ := add_ex S'' R2 140 (by omega) (by decide)
        replace a0 : ∀ w, (Op.stringOp .add (⟨#[32, 105, 110, 32]⟩ : ByteArray) (T (Ty.numT e.low))).run Tryz.prog w = .ok (.string (T R0)) w := a0
        replace a1 : ∀ w, (Op.stringOp .add (T R0) (⟨#[46, 46]⟩ : ByteArray)).run Tryz.prog w = .ok (.string (T R1)) w := a1
        have HS8 : Hid (S8 = S'' ++ ([32, 105, 110, 32] ++ Ty.numT e.low ++ [46, 46] ++ Ty.numT e.high)) := Lib.hid (by rw [hS8, hR2, hR1, hR0])
        have D1 := Lib.hid (fun w => DG.out e.low w (by have := LL.out; omega) (by have := LL.out; omega))
        have D2 := Lib.hid (fun w => DG.out e.high w (by have := UU.out; omega) (by have := UU.out; omega))
        have g8 := cell_regrown (K7.cell 8)
        have g9 := cell_regrown (K7.cell 9)
        have nr := nS''
        clear hrg hR0 hR1 hR2 hS8 nR0 nR1 nR2 n1 n2
        go_upto_if 79 with fail
        go_cut [8] (fun v wx => ∃ S3', v = .string (T S3') ∧ Hid (S3' = S'' ++ Ed.rangeS e) ∧ S3'.length ≤ 140 ∧ Below wc.heap.size wc wx)
        case first =>
          cases r
          · go_wp2_with fail
            refine region_later (by kernel_rfl) ?_
            refine phase_later (by kernel_rfl) 7 (below_drew _) [0, 1, 6, 2, 7] rfl (by kernel_rfl) ?_
            simp only [picks, nth]
            repeat (go_big_quiet_step (fail))
            refine wpQuiet_nil ?_
            refine phase_op 3 6 rfl (by kernel_rfl) (by decide) ?_
            simp only [nth]
            go_wp2_with fail
            refine (D1.out _).mono ?_
            rintro e w8 ⟨rfl, b8⟩
            have b9 : Below wc.heap.size wc w8 := (below_drew wc).trans b8
            go_wp2_with fail
            refine behind_later b9 ?_
            refine phase_later (by kernel_rfl) 4 (Below.refl _ _) [4, 5] rfl (by kernel_rfl) ?_
            simp only [picks, nth]
            repeat (go_big_quiet_step (fail))
            refine wpQuiet_nil ?_
            refine phase_op 8 3 rfl (by kernel_rfl) (by decide) ?_
            simp only [nth]
            go_wp2_with fail
            refine (D2.out _).mono ?_
            rintro e w9 ⟨rfl, b10⟩
            have b11 := below_step b9 b10 (Nat.le_refl _)
            go_wp2_with fail
            refine behind_later b10 ?_
            refine phase_later (by kernel_rfl) 0 (Below.refl _ _) [9, 10, 11] rfl (by kernel_rfl) ?_
            simp only [picks, nth]
            repeat (go_big_quiet_step (fail))
            refine wpQuiet_nil ?_
            refine phase_end (by kernel_rfl) ?_
            go_wp2_with fail
            go_meet
            exact ⟨S8, rfl, Lib.hid (by rw [HRR.out, if_neg (by simp)]; exact HS8.out), nS8, b11⟩
          · go_wp2_with fail
            go_meet
            exact ⟨S'', rfl, Lib.hid (by rw [HRR.out]; simp), by omega, Below.refl _ _⟩
        case rest =>
          obtain ⟨S9, rfl, HS9, nS9, b9⟩ := hcut
          clear a0 a1 a2 a3 D1 D2 HS8 nS8 EQ g8 g9
          obtain ⟨w9, hw9⟩ : ∃ w, w = wc := ⟨wc, rfl⟩
          subst hw9
          have K9 := K7.later b9
          have F9 := K9.eleven
          have d9 := below_step d7 b9 (Nat.le_refl _)
          have SH := Show_anyT e.type w9 (hb.below (d9.mono hB)) (Nat.le_trans hB d9.size)
          unfold ShowPost at SH
          have hsh := SHC.out
          have nsh := show_len (t := e.type) (b := e.dflt)
          have hlt : Ed.lineT e = S9 ++ [32, 61, 32] ++ (Ty.showS e.type e.dflt).1 ++ [59] := by
            unfold Ed.lineT
            rw [HS9.out, HS''.out, HS'.out, HS5.out, HS.out, HS3.out, HMP.out, HST.out, HNB.out]
            simp only [List.append_assoc]
          generalize Ty.showS e.type e.dflt = shw at *
          obtain ⟨V, z⟩ := shw
          dsimp only at SH hsh nsh hlt
          subst hsh
          obtain ⟨E0, hE0, nE0, a0⟩ := add_ex S9 [32, 61, 32] 150 (by simp only [List.length_cons, List.length_nil]; omega) (by decide)
          obtain ⟨E1, hE1, nE1, a1⟩ := add_ex E0 V 800 (by omega) (by decide)
          obtain ⟨E2, hE2, nE2, a2⟩ := add_ex E1 [59] 801 (by simp only [List.length_cons, List.length_nil]; omega) (by decide)
          replace a0 : ∀ w, (Op.stringOp .add (T S9) (⟨#[32, 61, 32]⟩ : ByteArray)).run Tryz.prog w = .ok (.string (T E0)) w := a0
          replace a2 : ∀ w, (Op.stringOp .add (T E1) (⟨#[59]⟩ : ByteArray)).run Tryz.prog w = .ok (.string (T E2)) w := a2
          have HE : Hid (Ed.lineS e = (E2, 0)) := Lib.hid (by rw [HV.out, hlt, hE2, hE1, hE0])
          replace SH := Lib.hid SH
          clear hlt hE0 hE1 hE2 nE0 nE1 nE2 nsh HS9
          go_wp2_with fail
          refine (SH.out).mono ?_
          rintro e w10 ⟨rfl, b10⟩
          go_wp2_with fail
          go_ret2
          exact show_mk HE.out (below_step d9 b10 (Nat.le_refl _))
end Go.Proofs.YtmolmpgampmolaaGreat
/-
  Walk: 'known' of the statements of layer 17.
  Conditions: none.
-/
namespace Go.Proofs.YtmolmpgampmolaaGreat
set_option linter.unusedVariables false
set_option linter.unusedSimpArgs false
open Go.RowKit Go.Sort
def kn17 : List UInt8 := [48, 120, 49, 48, 49, 55, 58, 48, 32, 98, 101, 97, 116, 32, 117, 49, 54, 32, 114, 119, 32, 115, 116, 111, 114, 101, 32, 105, 110, 32, 49, 48, 46, 46, 49, 48, 48, 48, 32, 61, 32, 50, 48, 59]
def ke17 : Ent.En := ⟨4119, 0, [98, 101, 97, 116], 6, 4, false, true, 0, 10, 1000, [20, 0]⟩
theorem kn1 : Ed.parseS [48, 120, 49, 48, 49, 55, 58, 48, 32, 98, 101, 97, 116, 32, 117, 49, 54, 32, 114, 119, 32, 115, 116, 111, 114, 101, 32, 105, 110, 32, 49, 48, 46, 46, 49, 48, 48, 48, 32, 61, 32, 50, 48, 59] = ([ke17], 0, 0) := by kernel_rfl
theorem kn2 : Ed.parseS [48, 120, 49, 48, 48, 48, 58, 48, 32, 97, 32, 117, 57] = ([], 15, 11) := by kernel_rfl
theorem kn3 : Ed.lineS ke17 = (kn17, 0) := by kernel_rfl
set_option maxRecDepth 100000 in
set_option maxHeartbeats 4000000 in
theorem known17_any (w : World) : Calls Tryz.prog 5 #[] w fun e w' => e = .returned (.bool true) ∧ Below w.heap.size w w' := by
  have P1 := EParse_any [48, 120, 49, 48, 49, 55, 58, 48, 32, 98, 101, 97, 116, 32, 117, 49, 54, 32, 114, 119, 32, 115, 116, 111, 114, 101, 32, 105, 110, 32, 49, 48, 46, 46, 49, 48, 48, 48, 32, 61, 32, 50, 48, 59] w (by simp)
  have P2 := fun w => EParse_any [48, 120, 49, 48, 48, 48, 58, 48, 32, 97, 32, 117, 57] w (by simp)
  rw [kn1] at P1
  rw [kn2] at P2
  replace P1 := Lib.hid P1
  replace P2 := Lib.hid P2
  go_enter Tryz.func5, Tryz.ntmps5
  go_wp2_with fail
  refine (P1.out).mono ?_
  rintro e w1 ⟨A1, c1, rfl, o1, b1⟩
  dsimp only [List.length_cons, List.length_nil] at o1
  go_wp2_with fail
  refine (P2.out _).mono ?_
  rintro e w2 ⟨A2, c2, rfl, o2, b2⟩
  have d2 := below_step b1 b2 (Nat.le_refl _)
  obtain ⟨b, o, A3, n3, c3, rfl, hbB, hr, hc⟩ := ((o1.below b2).ren).at_ (i := 0) (by omega)
  simp only [List.getD_cons_zero, Nat.zero_mul, Nat.zero_add, Nat.add_zero] at hr hc
  obtain rfl : 2 = n3 := hr.len
  have LN := Line_any (A := A3) (n := 2) (c := c3) ke17 w2 hr (Nat.le_refl _) (by decide)
  rw [kn3] at LN
  unfold ShowPost enV at LN
  have q0 := hc 0 _ rfl
  have q1 := hc 1 _ rfl
  have q2 := hc 2 _ rfl
  have q3 := hc 3 _ rfl
  have q4 := hc 4 _ rfl
  have q5 := hc 5 _ rfl
  have q6 := hc 6 _ rfl
  have q7 := hc 7 _ rfl
  have q8 := hc 8 _ rfl
  have q9 := hc 9 _ rfl
  have q10 := hc 10 _ rfl
  simp only [Nat.add_zero] at q0
  dsimp only [ke17] at q0 q1 q2 q3 q4 q5 q6 q7 q8 q9 q10 LN hr
  replace LN := Lib.hid LN
  have HQ := Lib.hid (show w2.cell? ⟨b, o, none⟩ = _ ∧ w2.cell? ⟨b, o + 9, none⟩ = _ ∧ w2.cell? ⟨b, o + 10, none⟩ = _ from ⟨q0, q9, q10⟩)
  have HR := Lib.hid hr
  clear hc hr o1 o2 P1 P2 b1 b2
  go_wp2_with fail
  refine (LN.out).mono ?_
  rintro e w3 ⟨rfl, b3⟩
  have d3 := below_step d2 b3 (Nat.le_refl _)
  have r0 := (b3.cell (p := ⟨b, o, none⟩) hbB).trans HQ.out.1
  have r9 := (b3.cell (p := ⟨b, o + 9, none⟩) hbB).trans HQ.out.2.1
  have r10 := (b3.cell (p := ⟨b, o + 10, none⟩) hbB).trans HQ.out.2.2
  have cv := convb (HR.out.below b3)
  clear q0 q1 q2 q3 q4 q5 q6 q7 q8 q9 q10 LN
  have t1 := T_toList kn17
  go_wp2_with fail
  go_ret
  exact ⟨rfl, d3⟩
end Go.Proofs.YtmolmpgampmolaaGreat
/-
  Walks: own, held of layer 15, Lent of layer 14's reference.
  Conditions: none.
-/
namespace Go.Proofs.YtmolmpgampmolaaGreat
set_option linter.unusedVariables false
set_option linter.unusedSimpArgs false
open Go.RowKit
set_option maxRecDepth 100000 in
set_option maxHeartbeats 4000000 in
theorem down_any {A : Option Addr} {n c B : Nat} {l : List UInt8} (w : World) (h : RB w B A n c l) (hn : n < 140737488355328) (hB : B ≤ w.heap.size) :
    Calls Tryz.prog 67 #[.slice A n c] w fun e w' => ∃ A1 c1, e = .returned (.slice A1 n c1) ∧ OB w' w.heap.size A1 n c1 l ∧ Below w.heap.size w w' := by
  go_enter Tryz.func67, Tryz.ntmps67
  go_wp2_with (at_builtin; refine wpList_appb_nil etb rfl (.const (.slice none 0 0)) (.tmp 3) rfl rfl rfl w.heap.size h (by omega) (Nat.le_refl _) ?_; intro A1 c1 w1 h1 hb1)
  go_ret
  exact ⟨_, _, rfl, h1, hb1⟩
set_option maxRecDepth 100000 in
set_option maxHeartbeats 4000000 in
theorem held_any (e : Ent.En) {A : Option Addr} {n c B : Nat} (w : World) (hb : RB w B A n c e.dflt) (hn : n < 140737488355328) (hB : B ≤ w.heap.size) :
    Calls Tryz.prog 66 #[enV e A n c] w fun x w' => ∃ A1 c1, x = .returned (enV e A1 n c1) ∧ OB w' w.heap.size A1 n c1 e.dflt ∧ Below w.heap.size w w' := by
  have hcells := enL e A n c
  obtain ⟨ix, sb, nm, ty, ac, mp, st, mx, lo, hi, df⟩ := e
  dsimp only at hb
  unfold enV
  dsimp only
  have OWN := down_any ((w.alloc (.cells #[.int .i64 ix, .int .i64 sb, .string (T nm), .int .i64 ty, .int .i64 ac, .bool mp, .bool st, .int .i64 mx, .int .i64 lo, .int .i64 hi, .slice A n c] 31)).alloc (.cells #[.int .i64 0, .int .i64 0, .string ⟨#[]⟩, .int .i64 0, .int .i64 0, .bool false, .bool false, .int .i64 0, .int .i64 0, .int .i64 0, .slice none 0 0] 31)) ((hb.alloc hB _).alloc (by simp; omega) _) hn (by simp; omega)
  replace OWN := Lib.hid OWN
  clear hb
  go_enter Tryz.func66, Tryz.ntmps66
  go_wp2_with fail
  refine (OWN.out).mono ?_
  rintro e w1 ⟨A1, c1, rfl, o1, b1⟩
  have K1 := ((Blk.new w 31 #[.int .i64 ix, .int .i64 sb, .string (T nm), .int .i64 ty, .int .i64 ac, .bool mp, .bool st, .int .i64 mx, .int .i64 lo, .int .i64 hi, .slice A n c]).alloc (.cells #[.int .i64 0, .int .i64 0, .string ⟨#[]⟩, .int .i64 0, .int .i64 0, .bool false, .bool false, .int .i64 0, .int .i64 0, .int .i64 0, .slice none 0 0] 31)).later b1
  have K2 := (Blk.new (w.alloc (.cells #[.int .i64 ix, .int .i64 sb, .string (T nm), .int .i64 ty, .int .i64 ac, .bool mp, .bool st, .int .i64 mx, .int .i64 lo, .int .i64 hi, .slice A n c] 31)) 31 #[.int .i64 0, .int .i64 0, .string ⟨#[]⟩, .int .i64 0, .int .i64 0, .bool false, .bool false, .int .i64 0, .int .i64 0, .int .i64 0, .slice none 0 0]).later b1
  have d1 := below_step (alloc_two w (.cells #[.int .i64 ix, .int .i64 sb, .string (T nm), .int .i64 ty, .int .i64 ac, .bool mp, .bool st, .int .i64 mx, .int .i64 lo, .int .i64 hi, .slice A n c] 31) (.cells #[.int .i64 0, .int .i64 0, .string ⟨#[]⟩, .int .i64 0, .int .i64 0, .bool false, .bool false, .int .i64 0, .int .i64 0, .int .i64 0, .slice none 0 0] 31)) b1 (Nat.le_refl _)
  have E1 := K1.eleven
  have E2 := K2.eleven
  simp only [World.size_alloc] at K2 E2
  simp only [World.size_alloc] at o1
  have hne : w.heap.size + 1 ≠ w.heap.size := by omega
  go_wp2_with fail
  have K3 := (K2.far (p := ⟨w.heap.size, 10, none⟩) hne (.slice A1 n c1)).store11 (.int .i64 ix) (.int .i64 sb) (.string (T nm)) (.int .i64 ty) (.int .i64 ac) (.bool mp) (.bool st) (.int .i64 mx) (.int .i64 lo) (.int .i64 hi) (.slice A1 n c1)
  have R := K3.eleven.1
  have d2 := below_set11 (g := w.heap.size + 1) (d1.setCell (p := ⟨w.heap.size, 10, none⟩) (Nat.le_refl _) (.slice A1 n c1)) (by omega) (.int .i64 ix) (.int .i64 sb) (.string (T nm)) (.int .i64 ty) (.int .i64 ac) (.bool mp) (.bool st) (.int .i64 mx) (.int .i64 lo) (.int .i64 hi) (.slice A1 n c1)
  have o2 := ((o1.far (g := w.heap.size) (by omega) 10 (.slice A1 n c1)).far11 (g := w.heap.size + 1) (by omega) (.int .i64 ix) (.int .i64 sb) (.string (T nm)) (.int .i64 ty) (.int .i64 ac) (.bool mp) (.bool st) (.int .i64 mx) (.int .i64 lo) (.int .i64 hi) (.slice A1 n c1)).more (base' := w.heap.size) (by omega)
  exact bodyPost_ret (v := .agg #[.int .i64 ix, .int .i64 sb, .string (T nm), .int .i64 ty, .int .i64 ac, .bool mp, .bool st, .int .i64 mx, .int .i64 lo, .int .i64 hi, .slice A1 n c1]) (by simp [results, Tryz.results66, go_sem, R]) rfl ⟨A1, c1, rfl, o2, d2⟩
end Go.Proofs.YtmolmpgampmolaaGreat
