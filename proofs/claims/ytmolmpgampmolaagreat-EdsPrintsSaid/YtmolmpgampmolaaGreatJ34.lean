/-
  Texts joined: EdsRLin.
  Conditions: none.
-/
import Derived.Test.YtmolmpgampmolaaGreatJ10
import Derived.Test.YtmolmpgampmolaaGreatJ20
import Derived.Test.YtmolmpgampmolaaGreatJ22
import Derived.Test.YtmolmpgampmolaaGreatJ27
import Derived.Test.YtmolmpgampmolaaGreatJ32
import Derived.IntWalk
/-
  Walk: Line of the reference of layer 17.
  Conditions: none.
-/
namespace Go.Proofs.YtmolmpgampmolaaGreat.Ed
set_option linter.unusedVariables false
set_option linter.unusedSimpArgs false
open Lx Ent
theorem no_rng {e : En} (h : rightS e = 0) (hn : numB e.type = false) : ((Ty.limS e.type).1 == e.low && (Ty.limS e.type).2.1 == e.high) = true := by
  have h8 := (right_iff h).2.2.2.2.2.2.2.1
  unfold limB at h8
  rw [if_neg (by rw [show (Ty.limS e.type).2.2 = false from hn]; simp)] at h8
  unfold sizedB at h8
  simp only [Bool.and_eq_true, decide_eq_true_eq] at h8
  rw [(lim_no hn).1, (lim_no hn).2, h8.1.1, h8.1.2.1]
  rfl
theorem acc_nat {e : En} (h : rightS e = 0) : ∃ a : Nat, e.access = (a : Int) ∧ 1 ≤ a ∧ a ≤ 4 := by
  have h7 := (right_iff h).2.2.2.2.2.2.1
  have ha : e.access = 1 ∨ e.access = 2 ∨ e.access = 3 ∨ e.access = 4 := by
    unfold flagsB at h7
    split at h7
    · exact .inl (by assumption)
    · split at h7
      · exact .inr (.inl (by assumption))
      · exact .inr (.inr (by simpa using h7))
  rcases ha with ha | ha | ha | ha
  · exact ⟨1, ha, by omega, by omega⟩
  · exact ⟨2, ha, by omega, by omega⟩
  · exact ⟨3, ha, by omega, by omega⟩
  · exact ⟨4, ha, by omega, by omega⟩
end Go.Proofs.YtmolmpgampmolaaGreat.Ed
namespace Go.Proofs.YtmolmpgampmolaaGreat
set_option linter.unusedVariables false
set_option linter.unusedSimpArgs false
open Go.RowKit Go.Sort
set_option maxRecDepth 100000 in
set_option maxHeartbeats 8000000 in
theorem RLine_any {A : Option Addr} {n c B : Nat} (e : Ent.En) (w : World) (hb : RB w B A n c e.dflt) (hB : B ≤ w.heap.size) (hn : e.name.length ≤ 1000000) : Calls Tryz.prog 15 #[enV e A n c] w (ShowPost (Ed.lineS e) w) := by
  have RG := fun (w1 : World) (q : Below w.heap.size w w1) => RRight_any e w1 (hb.below (q.mono hB)) (Nat.le_trans hB q.size) (by omega)
  unfold enV at RG ⊢
  by_cases hr : Ent.rightS e = 0
  case neg =>
    have HV := Lib.hid (Ed.line_bad hr)
    have e1 : (Ent.rightS e != 0) = true := by simpa using hr
    generalize Ent.rightS e = rs at *
    have b0 := alloc_one w (.cells #[.int .i64 e.index, .int .i64 e.sub, .string (T e.name), .int .i64 e.type, .int .i64 e.access, .bool e.map, .bool e.store, .int .i64 e.max, .int .i64 e.low, .int .i64 e.high, .slice A n c] 31)
    have K0 := (Blk.new w 31 #[.int .i64 e.index, .int .i64 e.sub, .string (T e.name), .int .i64 e.type, .int .i64 e.access, .bool e.map, .bool e.store, .int .i64 e.max, .int .i64 e.low, .int .i64 e.high, .slice A n c]).eleven
    have RG1 := Lib.hid (RG _ b0)
    clear RG hr
    go_enter Tryz.func15, Tryz.ntmps15
    go_wp2_with fail
    refine (RG1.out).mono ?_
    rintro e w1 ⟨rfl, b1⟩
    go_wp2_with fail
    go_ret2
    exact show_mk HV.out (below_step b0 b1 (Nat.le_refl _))
  obtain ⟨x1, x2, y1, y2, nl, ⟨l1, l2⟩, ⟨u1, u2⟩, ⟨m1, m2⟩, sh⟩ := Ed.right_more hr
  have HV := Lib.hid (Ed.line_ok hr)
  have RZ := Lib.hid hr
  rw [hr] at RG
  have LM := fun w => RLimits_any e.type w
  have b0 := alloc_one w (.cells #[.int .i64 e.index, .int .i64 e.sub, .string (T e.name), .int .i64 e.type, .int .i64 e.access, .bool e.map, .bool e.store, .int .i64 e.max, .int .i64 e.low, .int .i64 e.high, .slice A n c] 31)
  have K0 := (Blk.new w 31 #[.int .i64 e.index, .int .i64 e.sub, .string (T e.name), .int .i64 e.type, .int .i64 e.access, .bool e.map, .bool e.store, .int .i64 e.max, .int .i64 e.low, .int .i64 e.high, .slice A n c])
  have RG1 := Lib.hid (RG _ b0)
  have F0 := K0.eleven
  replace LM := Lib.hid LM
  have DG := Lib.hid (fun n w h1 h2 => RNumber_any n w h1 h2)
  have XX := Lib.hid (And.intro x1 x2)
  have YY := Lib.hid (And.intro y1 y2)
  have LL := Lib.hid (And.intro l1 l2)
  have UU := Lib.hid (And.intro u1 u2)
  have MM := Lib.hid (And.intro m1 m2)
  have SHC := Lib.hid sh
  obtain ⟨H, hH⟩ : ∃ H, H = Oct.hexS [UInt8.ofNat (e.index.toNat / 256), UInt8.ofNat (e.index.toNat % 256)] := ⟨_, rfl⟩
  have nH : H.length = 4 := by rw [hH, Oct.hexS_length]; rfl
  have hbytes : [Value.int .u8 (e.index / 256 % 256), Value.int .u8 (e.index % 256)] = [UInt8.ofNat (e.index.toNat / 256), UInt8.ofNat (e.index.toNat % 256)].map bv := by
    simp only [List.map_cons, List.map_nil, bv, UInt8.toNat_ofNat']
    congr 2 <;> (try congr 1) <;> (try congr 1) <;> omega
  have RBh := fun w1 : World => RB.lit w1 _ _ hbytes (n := 2) rfl (by decide)
  rw [show ([Value.int .u8 (e.index / 256 % 256), Value.int .u8 (e.index % 256)] : List Value).toArray = #[Value.int .u8 (e.index / 256 % 256), Value.int .u8 (e.index % 256)] from rfl] at RBh
  have HX := fun w1 : World => RHexT _ (RBh w1).drew (by decide)
  rw [← hH] at HX
  replace HX := Lib.hid HX
  have TN := Lib.hid (fun w => RName_any e.type w)
  have nD := numT_len e.sub
  have nT := kd_len e.type
  obtain ⟨S0, hS0, nS0, a0⟩ := add_ex [48, 120] H 6 (by rw [nH]; decide) (by decide)
  obtain ⟨S1, hS1, nS1, a1⟩ := add_ex S0 [58] 7 (by simp only [List.length_cons, List.length_nil]; omega) (by decide)
  obtain ⟨S2, hS2, nS2, a2⟩ := add_ex S1 (Ty.numT e.sub) 28 (by omega) (by decide)
  obtain ⟨N0, hN0, nN0, a3⟩ := add_ex S2 [32] 29 (by simp only [List.length_cons, List.length_nil]; omega) (by decide)
  obtain ⟨N1, hN1, nN1, a4⟩ := add_ex N0 e.name 45 (by omega) (by decide)
  obtain ⟨N2, hN2, nN2, a5⟩ := add_ex N1 [32] 46 (by simp only [List.length_cons, List.length_nil]; omega) (by decide)
  obtain ⟨S3, hS3, nS3, a6⟩ := add_ex N2 (Ty.kd e.type).name 52 (by omega) (by decide)
  replace a0 : ∀ w, (Op.stringOp .add (⟨#[48, 120]⟩ : ByteArray) (T H)).run Tryz.prog w = .ok (.string (T S0)) w := a0
  replace a1 : ∀ w, (Op.stringOp .add (T S0) (⟨#[58]⟩ : ByteArray)).run Tryz.prog w = .ok (.string (T S1)) w := a1
  replace a3 : ∀ w, (Op.stringOp .add (T S2) (⟨#[32]⟩ : ByteArray)).run Tryz.prog w = .ok (.string (T N0)) w := a3
  replace a5 : ∀ w, (Op.stringOp .add (T N1) (⟨#[32]⟩ : ByteArray)).run Tryz.prog w = .ok (.string (T N2)) w := a5
  have q1 : Int.tdiv e.index 256 = e.index / 256 := Int.tdiv_eq_ediv_of_nonneg (by omega)
  have q2 : Int.tmod e.index 256 = e.index % 256 := Int.tmod_eq_emod_of_nonneg (by omega)
  have q3 : wrap64 (e.index / 256) = e.index / 256 := IntWalk.wrap64_in _ (by omega)
  have HS3 : Hid (S3 = [48, 120] ++ Oct.hexS [UInt8.ofNat (e.index.toNat / 256), UInt8.ofNat (e.index.toNat % 256)] ++ [58] ++ Ty.numT e.sub ++ [32] ++ e.name ++ [32] ++ (Ty.kd e.type).name) := Lib.hid (by
    rw [hS3, hN2, hN1, hN0, hS2, hS1, hS0, hH])
  have HLT := Lib.hid (show Ed.lineT e = _ from rfl)
  have HRG := Lib.hid (show Ed.rangeS e = _ from rfl)
  have DS := Lib.hid (DG.out e.sub)
  clear hH hS0 hS1 hS2 hN0 hN1 hN2 hS3 hbytes RBh nS0 nS1 nS2 nN0 nN1 nN2 nH nD nT
  clear RG hr x1 x2 y1 y2 l1 l2 u1 u2 m1 m2 sh
  go_enter Tryz.func15, Tryz.ntmps15
  go_wp2_with fail
  refine (RG1.out).mono ?_
  rintro e w1 ⟨rfl, b1⟩
  have K1 := K0.later b1
  have F1 := K1.eleven
  have d1 := below_step b0 b1 (Nat.le_refl _)
  clear F0 K0 b0 b1 RG1
  go_wp2_with fail
  refine (LM.out _).mono ?_
  rintro e w2 ⟨rfl, hw2⟩
  subst hw2
  have DS2 := Lib.hid (fun w => DS.out w (by have := YY.out; omega) (by have := YY.out; omega))
  have HX2 := Lib.hid (HX.out w1)
  clear F1 LM HX
  have g0 := cell_regrown (K1.cell 0)
  have g1 := cell_regrown (K1.cell 1)
  have g2 := cell_regrown (K1.cell 2)
  have g3 := cell_regrown (K1.cell 3)
  go_wp2_with fail
  refine region_later (by kernel_rfl) ?_
  refine phase_later (by kernel_rfl) 12 (below_drew _) [0, 4, 12, 17, 21, 1, 5, 13, 18, 22, 2, 6, 3, 7] rfl (by kernel_rfl) ?_
  simp only [picks, nth]
  repeat (go_big_quiet_step (fail))
  refine wpQuiet_nil ?_
  refine phase_op 8 11 rfl (by kernel_rfl) (by decide) ?_
  simp only [nth]
  go_wp2_with fail
  have b3 : Below w1.heap.size w1 (w1.alloc (.cells #[.int .u8 (e.index / 256 % 256), .int .u8 (e.index % 256)] 5)).drew := (alloc_one _ _).drew
  refine behind_later b3 ?_
  refine phase_op 9 10 rfl (by kernel_rfl) (by decide) ?_
  simp only [nth]
  go_wp2_with fail
  refine (HX2.out).mono ?_
  rintro e w4 ⟨rfl, b4⟩
  have b5 := below_step b3 b4 (Nat.le_refl _)
  clear HX2
  go_wp2_with fail
  refine behind_later b4 ?_
  refine phase_later (by kernel_rfl) 8 (Below.refl _ _) [10, 11] rfl (by kernel_rfl) ?_
  simp only [picks, nth]
  repeat (go_big_quiet_step (fail))
  refine wpQuiet_nil ?_
  refine phase_op 14 7 rfl (by kernel_rfl) (by decide) ?_
  simp only [nth]
  go_wp2_with fail
  refine (DS2.out _).mono ?_
  rintro e w5 ⟨rfl, hw5⟩
  subst hw5
  clear DS2
  go_wp2_with fail
  refine behind_later (Below.refl _ _) ?_
  refine phase_later (by kernel_rfl) 3 (Below.refl _ _) [15, 16, 19, 20] rfl (by kernel_rfl) ?_
  simp only [picks, nth]
  repeat (go_big_quiet_step (fail))
  refine wpQuiet_nil ?_
  refine phase_op 23 2 rfl (by kernel_rfl) (by decide) ?_
  simp only [nth]
  go_wp2_with fail
  refine (TN.out _).mono ?_
  rintro e w6 ⟨rfl, hw6⟩
  subst hw6
  clear TN
  go_wp2_with fail
  refine behind_later (Below.refl _ _) ?_
  refine phase_later (by kernel_rfl) 0 (Below.refl _ _) [24, 25] rfl (by kernel_rfl) ?_
  simp only [picks, nth]
  repeat (go_big_quiet_step (fail))
  refine wpQuiet_nil ?_
  refine phase_end (by kernel_rfl) ?_
  have K6 := K1.later b5
  have d6 := below_step d1 b5 (Nat.le_refl _)
  clear K1 d1 b3 b4 b5 g0 g1 g2 g3 a0 a1 a2 a3 a4 a5 a6 q1 q2 q3
  go_upto_if 49 with fail
  have nM := numT_len e.max
  obtain ⟨M0, hM0, nM0, a0⟩ := add_ex S3 [91] 53 (by simp only [List.length_cons, List.length_nil]; omega) (by decide)
  obtain ⟨M1, hM1, nM1, a1⟩ := add_ex M0 (Ty.numT e.max) 74 (by omega) (by decide)
  obtain ⟨S4, hS4, nS4, a2⟩ := add_ex M1 [93] 75 (by simp only [List.length_cons, List.length_nil]; omega) (by decide)
  replace a0 : ∀ w, (Op.stringOp .add (T S3) (⟨#[91]⟩ : ByteArray)).run Tryz.prog w = .ok (.string (T M0)) w := a0
  replace a2 : ∀ w, (Op.stringOp .add (T M1) (⟨#[93]⟩ : ByteArray)).run Tryz.prog w = .ok (.string (T S4)) w := a2
  have HS4 : Hid (S4 = S3 ++ ([91] ++ Ty.numT e.max ++ [93])) := Lib.hid (by rw [hS4, hM1, hM0]; simp only [List.append_assoc])
  have DM := Lib.hid (fun w => DG.out e.max w (by have := MM.out; omega) (by have := MM.out; omega))
  have F6 := K6.eleven
  obtain ⟨nb, hnb⟩ : ∃ nb, nb = Ed.numB e.type := ⟨_, rfl⟩
  have hnb2 : (Ty.limS e.type).2.2 = nb := hnb.symm
  rw [hnb2]
  have HNB := Lib.hid hnb
  clear hS4 hM0 hM1 nM0 nM1 nM hnb hnb2
  go_cut [8] (fun v wx => ∃ S, v = .string (T S) ∧ Hid (S = S3 ++ (if nb = true then [] else [91] ++ Ty.numT e.max ++ [93])) ∧ S.length ≤ 75 ∧ wx = w4)
  case first =>
    cases nb
    · go_wp2_with fail
      refine (DM.out _).mono ?_
      rintro e w7 ⟨rfl, hw7⟩
      subst hw7
      go_wp2_with fail
      go_meet
      exact ⟨S4, rfl, HS4, nS4, rfl⟩
    · go_wp2_with fail
      go_meet
      exact ⟨S3, rfl, Lib.hid (by simp), by omega, rfl⟩
  case rest =>
    obtain ⟨S, rfl, HS, nS, hwc⟩ := hcut
    clear a0 a1 a2 DM HS4 nS4
    obtain ⟨w7, hw7⟩ : ∃ w, w = wc := ⟨wc, rfl⟩
    subst hw7
    subst hwc
    obtain ⟨ac, hac, ha1, ha4⟩ := Ed.acc_nat RZ.out
    have K7 := K6
    have d7 := d6
    rw [hac] at K7
    have F7 := K7.eleven
    have WD := Lib.hid (rrights_any ac ha1 ha4 w7)
    have nW := word_len (ac : Int)
    obtain ⟨W0, hW0, nW0, a0⟩ := add_ex S [32] 76 (by simp only [List.length_cons, List.length_nil]; omega) (by decide)
    obtain ⟨S5, hS5, nS5, a1⟩ := add_ex W0 (Ed.wordS (ac : Int)) 81 (by omega) (by decide)
    replace a0 : ∀ w, (Op.stringOp .add (T S) (⟨#[32]⟩ : ByteArray)).run Tryz.prog w = .ok (.string (T W0)) w := a0
    have HS5 : Hid (S5 = S ++ ([32] ++ Ed.wordS e.access)) := Lib.hid (by rw [hS5, hW0, hac]; simp only [List.append_assoc])
    obtain ⟨S6, hS6, nS6, a2⟩ := add_ex S5 [32, 109, 97, 112] 85 (by simp only [List.length_cons, List.length_nil]; omega) (by decide)
    replace a2 : ∀ w, (Op.stringOp .add (T S5) (⟨#[32, 109, 97, 112]⟩ : ByteArray)).run Tryz.prog w = .ok (.string (T S6)) w := a2
    have HS6 := Lib.hid hS6
    rw [hac]
    clear hW0 hS5 hS6 nW nW0 F6 K6 d6 hac ha1 ha4
    go_wp2_with fail
    refine (WD.out).mono ?_
    rintro e w8 ⟨rfl, b8⟩
    replace K7 := K7.later b8
    replace d7 := below_step d7 b8 (Nat.le_refl _)
    clear F7 WD b8
    have F7 := K7.eleven
    go_upto_if 64 with fail
    generalize hmp : e.map = mp at F7 K7 ⊢
    have HMP := Lib.hid hmp
    clear hmp a0 a1
    go_cut [8] (fun v wx => ∃ S', v = .string (T S') ∧ Hid (S' = S5 ++ (if mp = true then [32, 109, 97, 112] else [])) ∧ S'.length ≤ 85 ∧ wx = w8)
    case first =>
      cases mp
      · go_wp2_with fail
        go_meet
        exact ⟨S5, rfl, Lib.hid (by simp), by omega, rfl⟩
      · go_wp2_with fail
        go_meet
        exact ⟨S6, rfl, Lib.hid HS6.out, nS6, rfl⟩
    case rest =>
      obtain ⟨S', rfl, HS', nS', rfl⟩ := hcut
      clear a2 HS6
      obtain ⟨S7, hS7, nS7, a0⟩ := add_ex S' [32, 115, 116, 111, 114, 101] 91 (by simp only [List.length_cons, List.length_nil]; omega) (by decide)
      replace a0 : ∀ w, (Op.stringOp .add (T S') (⟨#[32, 115, 116, 111, 114, 101]⟩ : ByteArray)).run Tryz.prog w = .ok (.string (T S7)) w := a0
      have HS7 := Lib.hid hS7
      clear hS7
      go_upto_if 68 with fail
      generalize hst : e.store = st at F7 K7 ⊢
      have HST := Lib.hid hst
      clear hst
      go_cut [8] (fun v wx => ∃ S'', v = .string (T S'') ∧ Hid (S'' = S' ++ (if st = true then [32, 115, 116, 111, 114, 101] else [])) ∧ S''.length ≤ 91 ∧ wx = wc)
      case first =>
        cases st
        · go_wp2_with fail
          go_meet
          exact ⟨S', rfl, Lib.hid (by simp), by omega, rfl⟩
        · go_wp2_with fail
          go_meet
          exact ⟨S7, rfl, Lib.hid HS7.out, nS7, rfl⟩
      case rest =>
        obtain ⟨S'', rfl, HS'', nS'', rfl⟩ := hcut
        clear a0 HS7 nS7
        have hrg : Ed.rangeS e = if ((Ty.limS e.type).1 == e.low && (Ty.limS e.type).2.1 == e.high) = true then [] else [32, 105, 110, 32] ++ Ty.numT e.low ++ [46, 46] ++ Ty.numT e.high := by
          unfold Ed.rangeS
          by_cases h1 : (Ty.limS e.type).1 = e.low
          · by_cases h2 : (Ty.limS e.type).2.1 = e.high
            · rw [if_neg (by rintro (h | h); exact h h1; exact h h2), if_pos (by rw [h1, h2]; simp)]
            · rw [if_pos (.inr h2), if_neg (by simp [h2])]
          · rw [if_pos (.inl h1), if_neg (by simp [h1])]
        have hno : nb = false → ((Ty.limS e.type).1 == e.low && (Ty.limS e.type).2.1 == e.high) = true := fun h => Ed.no_rng RZ.out (by rw [← HNB.out]; exact h)
        have hb1 : (e.low != (Ty.limS e.type).1) = !((Ty.limS e.type).1 == e.low) := by rw [bne, Bool.beq_comm]
        have hb2 : (e.high != (Ty.limS e.type).2.1) = !((Ty.limS e.type).2.1 == e.high) := by rw [bne, Bool.beq_comm]
        go_upto_region 13 with fail
        obtain ⟨r, hr⟩ : ∃ r, r = ((Ty.limS e.type).1 == e.low && (Ty.limS e.type).2.1 == e.high) := ⟨_, rfl⟩
        have HR := Lib.hid hr
        generalize ((Ty.limS e.type).1 == e.low) = r1 at *
        generalize ((Ty.limS e.type).2.1 == e.high) = r2 at *
        have HNO := Lib.hid hno
        have HRG2 := Lib.hid hrg
        clear hrg hno hr
        go_cut [83] (fun v wx => v = .bool (!r) ∧ wx = wc)
        case first =>
          cases nb
          · have h := HNO.out rfl
            have h2 := HR.out
            rw [h] at h2
            subst h2
            clear hb1 hb2 h
            go_wp2_with fail
            go_meet
            exact ⟨rfl, rfl⟩
          · cases r1
            · have h2 : r = false := HR.out
              subst h2
              rw [Bool.not_false] at hb1
              clear hb2
              go_wp2_with fail
              go_meet
              exact ⟨rfl, rfl⟩
            · cases r2
              · have h2 : r = false := HR.out
                subst h2
                rw [Bool.not_true] at hb1
                rw [Bool.not_false] at hb2
                go_wp2_with fail
                go_meet
                exact ⟨rfl, rfl⟩
              · have h2 : r = true := HR.out
                subst h2
                rw [Bool.not_true] at hb1
                rw [Bool.not_true] at hb2
                go_wp2_with fail
                go_meet
                exact ⟨rfl, rfl⟩
        case rest =>
          obtain ⟨rfl, hwe⟩ := hcut
          obtain ⟨wd, hwd⟩ : ∃ w, w = wc := ⟨wc, rfl⟩
          subst hwd
          rw [← hwe] at K7 F7 d7
          have HRR : Hid (Ed.rangeS e = if r = true then [] else [32, 105, 110, 32] ++ Ty.numT e.low ++ [46, 46] ++ Ty.numT e.high) := Lib.hid (by rw [HRG2.out, HR.out])
          clear hb1 hb2 HR HNO HRG2 hwe
          have n1 := numT_len e.low
          have n2 := numT_len e.high
          obtain ⟨R0, hR0, nR0, a0⟩ := add_ex S'' [32, 105, 110, 32] 95 (by simp only [List.length_cons, List.length_nil]; omega) (by decide)
          obtain ⟨R1, hR1, nR1, a1⟩ := add_ex R0 (Ty.numT e.low) 116 (by omega) (by decide)
          obtain ⟨R2, hR2, nR2, a2⟩ := add_ex R1 [46, 46] 118 (by simp only [List.length_cons, List.length_nil]; omega) (by decide)
          obtain ⟨S8, hS8, nS8, a3⟩ := add_ex R2 (Ty.numT e.high) 140 (by omega) (by decide)
          replace a0 : ∀ w, (Op.stringOp .add (T S'') (⟨#[32, 105, 110, 32]⟩ : ByteArray)).run Tryz.prog w = .ok (.string (T R0)) w := a0
          replace a2 : ∀ w, (Op.stringOp .add (T R1) (⟨#[46, 46]⟩ : ByteArray)).run Tryz.prog w = .ok (.string (T R2)) w := a2
          have HS8 : Hid (S8 = S'' ++ ([32, 105, 110, 32] ++ Ty.numT e.low ++ [46, 46] ++ Ty.numT e.high)) := Lib.hid (by rw [hS8, hR2, hR1, hR0]; simp only [List.append_assoc])
          have D1 := Lib.hid (fun w => DG.out e.low w (by have := LL.out; omega) (by have := LL.out; omega))
          have D2 := Lib.hid (fun w => DG.out e.high w (by have := UU.out; omega) (by have := UU.out; omega))
          have g8 := cell_regrown (K7.cell 8)
          have g9 := cell_regrown (K7.cell 9)
          clear hR0 hR1 hR2 hS8 nR0 nR1 nR2 n1 n2
          go_upto_if 83 with fail
          go_cut [8] (fun v wx => ∃ S3', v = .string (T S3') ∧ Hid (S3' = S'' ++ Ed.rangeS e) ∧ S3'.length ≤ 140 ∧ Below wd.heap.size wd wx)
          case first =>
            cases r
            · go_wp2_with fail
              refine region_later (by kernel_rfl) ?_
              refine phase_later (by kernel_rfl) 6 (below_drew _) [0, 2, 7, 1, 3, 8] rfl (by kernel_rfl) ?_
              simp only [picks, nth]
              repeat (go_big_quiet_step (fail))
              refine wpQuiet_nil ?_
              refine phase_op 4 5 rfl (by kernel_rfl) (by decide) ?_
              simp only [nth]
              go_wp2_with fail
              refine (D1.out _).mono ?_
              rintro e w8 ⟨rfl, rfl⟩
              go_wp2_with fail
              refine behind_later (below_drew _) ?_
              refine phase_later (by kernel_rfl) 3 (Below.refl _ _) [5, 6] rfl (by kernel_rfl) ?_
              simp only [picks, nth]
              repeat (go_big_quiet_step (fail))
              refine wpQuiet_nil ?_
              refine phase_op 9 2 rfl (by kernel_rfl) (by decide) ?_
              simp only [nth]
              go_wp2_with fail
              refine (D2.out _).mono ?_
              rintro e w9 ⟨rfl, rfl⟩
              go_wp2_with fail
              refine behind_later (Below.refl _ _) ?_
              refine phase_later (by kernel_rfl) 0 (Below.refl _ _) [10, 11] rfl (by kernel_rfl) ?_
              simp only [picks, nth]
              repeat (go_big_quiet_step (fail))
              refine wpQuiet_nil ?_
              refine phase_end (by kernel_rfl) ?_
              go_wp2_with fail
              go_meet
              exact ⟨S8, rfl, Lib.hid (by rw [HRR.out]; simpa using HS8.out), nS8, below_drew _⟩
            · go_wp2_with fail
              go_meet
              exact ⟨S'', rfl, Lib.hid (by rw [HRR.out]; simp), by omega, Below.refl _ _⟩
          case rest =>
            obtain ⟨S9, rfl, HS9, nS9, b9⟩ := hcut
            clear a0 a1 a2 a3 D1 D2 HS8 nS8 g8 g9
            obtain ⟨w9, hw9⟩ : ∃ w, w = wc := ⟨wc, rfl⟩
            subst hw9
            have K9 := K7.later b9
            have F9 := K9.eleven
            have d9 := below_step d7 b9 (Nat.le_refl _)
            have SH := RShow_anyT e.type w9 (hb.below (d9.mono hB))
            unfold ShowPost at SH
            have hsh := SHC.out
            have nsh := show_len (t := e.type) (b := e.dflt)
            have hlt : Ed.lineT e = S9 ++ [32, 61, 32] ++ (Ty.showS e.type e.dflt).1 ++ [59] := by
              unfold Ed.lineT
              rw [HS9.out, HS''.out, HS'.out, HS5.out, HS.out, HS3.out, HMP.out, HST.out, HNB.out]
              simp only [List.append_assoc]
            generalize Ty.showS e.type e.dflt = shw at *
            obtain ⟨V, z⟩ := shw
            dsimp only at SH hsh nsh hlt
            subst hsh
            obtain ⟨E0, hE0, nE0, a0⟩ := add_ex S9 [32, 61, 32] 150 (by simp only [List.length_cons, List.length_nil]; omega) (by decide)
            obtain ⟨E1, hE1, nE1, a1⟩ := add_ex E0 V 800 (by omega) (by decide)
            obtain ⟨E2, hE2, nE2, a2⟩ := add_ex E1 [59] 801 (by simp only [List.length_cons, List.length_nil]; omega) (by decide)
            replace a0 : ∀ w, (Op.stringOp .add (T S9) (⟨#[32, 61, 32]⟩ : ByteArray)).run Tryz.prog w = .ok (.string (T E0)) w := a0
            replace a2 : ∀ w, (Op.stringOp .add (T E1) (⟨#[59]⟩ : ByteArray)).run Tryz.prog w = .ok (.string (T E2)) w := a2
            have HE : Hid (Ed.lineS e = (E2, 0)) := Lib.hid (by rw [HV.out, hlt, hE2, hE1, hE0])
            replace SH := Lib.hid SH
            clear hlt hE0 hE1 hE2 nE0 nE1 nE2 nsh HS9
            go_wp2_with fail
            refine (SH.out).mono ?_
            rintro e w10 ⟨rfl, b10⟩
            go_wp2_with fail
            go_ret2
            exact show_mk HE.out (below_step d9 b10 (Nat.le_refl _))
end Go.Proofs.YtmolmpgampmolaaGreat
