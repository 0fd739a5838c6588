/-
  Texts joined: EntRight, EntBef, TypPar.
  Conditions: none.
-/
import Derived.Test.YtmolmpgampmolaaGreatJ01
import Derived.Test.YtmolmpgampmolaaGreatJ04
import Derived.Test.YtmolmpgampmolaaGreatJ08
import Derived.Test.YtmolmpgampmolaaGreatJ10
import Derived.Test.YtmolmpgampmolaaGreatJ12
/-
  Walk: Right of layer 14.
  Conditions: none.
-/
namespace Go.Proofs.YtmolmpgampmolaaGreat
set_option linter.unusedVariables false
set_option linter.unusedSimpArgs false
open Go.RowKit
theorem lim_open {p : Int × Int × Bool} {w : World} {e : Ending} {w' : World} (h : LimPost p w e w') : e = .returned (.tuple #[.int .i64 p.1, .int .i64 p.2.1, .bool p.2.2]) ∧ Below w.heap.size w w' := h
set_option maxRecDepth 100000 in
set_option maxHeartbeats 4000000 in
theorem Right_any (e : Ent.En) {A : Option Addr} {n c B : Nat} (w : World) (hb : RB w B A n c e.dflt) (hB : B ≤ w.heap.size) (hn : e.name.length ≤ 9223372036854775807) : Calls Tryz.prog 29 #[enV e A n c] w fun x w' => x = .returned (.int .i64 (Ent.rightS e)) ∧ Below w.heap.size w w' := by
  obtain ⟨ix, sb, nm, ty, ac, mp, st, mx, lo, hi, df⟩ := e
  dsimp only at hb hn
  have L := fun w => Limits_any ty w
  have NM := fun w => Name_any nm w hn
  have KN := fun w => TKnown_any ty w
  have FL := fun w => flags_any ⟨ix, sb, nm, ty, ac, mp, st, mx, lo, hi, df⟩ A n c w
  have NB := fun w => numbered_any ⟨ix, sb, nm, ty, ac, mp, st, mx, lo, hi, df⟩ A n c (Ty.limS ty).1 (Ty.limS ty).2.1 w
  have SZ := fun w => sized_any ⟨ix, sb, nm, ty, ac, mp, st, mx, lo, hi, df⟩ A n c w
  have VL := fun (w1 : World) (h : Below w.heap.size w w1) => EValue_any ⟨ix, sb, nm, ty, ac, mp, st, mx, lo, hi, df⟩ A n c w1 (hb.below (h.mono hB)) (Nat.le_trans hB h.size)
  unfold knownB at KN
  unfold LimPost at L
  unfold enV at FL NB SZ VL
  dsimp only at FL NB SZ VL
  unfold enV
  dsimp only
  have hR : Ent.rightS ⟨ix, sb, nm, ty, ac, mp, st, mx, lo, hi, df⟩ = if ix < 1 ∨ 65535 < ix ∨ sb < 0 ∨ 255 < sb then 9 else if Ent.nameB nm = false then 14 else if (Ty.kd ty).name = [] then 15 else if Ent.flagsB ⟨ix, sb, nm, ty, ac, mp, st, mx, lo, hi, df⟩ = false then 1 else if Ent.limB ⟨ix, sb, nm, ty, ac, mp, st, mx, lo, hi, df⟩ = false then 1 else if Ent.valS ⟨ix, sb, nm, ty, ac, mp, st, mx, lo, hi, df⟩ df ≠ 0 then 4 else 0 := rfl
  have hLB : Ent.limB ⟨ix, sb, nm, ty, ac, mp, st, mx, lo, hi, df⟩ = if (Ty.limS ty).2.2 = true then Ent.numberedB ⟨ix, sb, nm, ty, ac, mp, st, mx, lo, hi, df⟩ (Ty.limS ty).1 (Ty.limS ty).2.1 else Ent.sizedB ⟨ix, sb, nm, ty, ac, mp, st, mx, lo, hi, df⟩ := rfl
  rw [hLB] at hR
  generalize Ent.rightS ⟨ix, sb, nm, ty, ac, mp, st, mx, lo, hi, df⟩ = res at *
  generalize Ent.flagsB ⟨ix, sb, nm, ty, ac, mp, st, mx, lo, hi, df⟩ = fb at *
  generalize Ent.numberedB ⟨ix, sb, nm, ty, ac, mp, st, mx, lo, hi, df⟩ (Ty.limS ty).1 (Ty.limS ty).2.1 = nb at *
  generalize Ent.sizedB ⟨ix, sb, nm, ty, ac, mp, st, mx, lo, hi, df⟩ = sz at *
  generalize Ent.valS ⟨ix, sb, nm, ty, ac, mp, st, mx, lo, hi, df⟩ df = vl at *
  generalize Ent.nameB nm = nmb at *
  generalize (Ty.limS ty).1 = llo at *
  generalize (Ty.limS ty).2.1 = lhi at *
  generalize (Ty.limS ty).2.2 = num at *
  clear hLB hb hn
  by_cases r1 : ix < 1
  · rw [if_pos (by omega)] at hR
    have HV := Lib.hid hR
    replace L := Lib.hid L; replace NM := Lib.hid NM; replace KN := Lib.hid KN; replace FL := Lib.hid FL; replace NB := Lib.hid NB; replace SZ := Lib.hid SZ; replace VL := Lib.hid VL
    clear hR
    go_enter Tryz.func29, Tryz.ntmps29
    go_wp2_with fail
    refine (L.out _).mono ?_
    rintro x w1 ⟨rfl, b1⟩
    have K1 := Blk.made b1
    have d1 := below_step (alloc_one _ _) b1 (Nat.le_refl _)
    have F1 := K1.eleven
    go_wp2_with fail
    go_ret
    exact ⟨by rw [HV.out]; rfl, d1⟩
  by_cases r2 : 65535 < ix
  · rw [if_pos (by omega)] at hR
    have HV := Lib.hid hR
    replace L := Lib.hid L; replace NM := Lib.hid NM; replace KN := Lib.hid KN; replace FL := Lib.hid FL; replace NB := Lib.hid NB; replace SZ := Lib.hid SZ; replace VL := Lib.hid VL
    clear hR
    go_enter Tryz.func29, Tryz.ntmps29
    go_wp2_with fail
    refine (L.out _).mono ?_
    rintro x w1 ⟨rfl, b1⟩
    have K1 := Blk.made b1
    have d1 := below_step (alloc_one _ _) b1 (Nat.le_refl _)
    have F1 := K1.eleven
    go_wp2_with fail
    go_ret
    exact ⟨by rw [HV.out]; rfl, d1⟩
  by_cases r3 : sb < 0
  · rw [if_pos (by omega)] at hR
    have HV := Lib.hid hR
    replace L := Lib.hid L; replace NM := Lib.hid NM; replace KN := Lib.hid KN; replace FL := Lib.hid FL; replace NB := Lib.hid NB; replace SZ := Lib.hid SZ; replace VL := Lib.hid VL
    clear hR
    go_enter Tryz.func29, Tryz.ntmps29
    go_wp2_with fail
    refine (L.out _).mono ?_
    rintro x w1 ⟨rfl, b1⟩
    have K1 := Blk.made b1
    have d1 := below_step (alloc_one _ _) b1 (Nat.le_refl _)
    have F1 := K1.eleven
    go_wp2_with fail
    go_ret
    exact ⟨by rw [HV.out]; rfl, d1⟩
  by_cases r4 : 255 < sb
  · rw [if_pos (by omega)] at hR
    have HV := Lib.hid hR
    replace L := Lib.hid L; replace NM := Lib.hid NM; replace KN := Lib.hid KN; replace FL := Lib.hid FL; replace NB := Lib.hid NB; replace SZ := Lib.hid SZ; replace VL := Lib.hid VL
    clear hR
    go_enter Tryz.func29, Tryz.ntmps29
    go_wp2_with fail
    refine (L.out _).mono ?_
    rintro x w1 ⟨rfl, b1⟩
    have K1 := Blk.made b1
    have d1 := below_step (alloc_one _ _) b1 (Nat.le_refl _)
    have F1 := K1.eleven
    go_wp2_with fail
    go_ret
    exact ⟨by rw [HV.out]; rfl, d1⟩
  rw [if_neg (by omega)] at hR
  cases nmb with
  | false =>
    rw [if_pos rfl] at hR
    have HV := Lib.hid hR
    replace L := Lib.hid L; replace NM := Lib.hid NM; replace KN := Lib.hid KN; replace FL := Lib.hid FL; replace NB := Lib.hid NB; replace SZ := Lib.hid SZ; replace VL := Lib.hid VL
    clear hR
    go_enter Tryz.func29, Tryz.ntmps29
    go_wp2_with fail
    refine (L.out _).mono ?_
    rintro x w1 ⟨rfl, b1⟩
    have K1 := Blk.made b1
    have d1 := below_step (alloc_one _ _) b1 (Nat.le_refl _)
    have F1 := K1.eleven
    go_wp2_with fail
    refine (NM.out _).mono ?_
    rintro x _ ⟨rfl, rfl⟩
    go_wp2_with fail
    go_ret
    exact ⟨by rw [HV.out]; rfl, d1⟩
  | true =>
  rw [if_neg (by decide)] at hR
  by_cases hk : (Ty.kd ty).name = []
  · rw [if_pos hk] at hR
    rw [hk] at KN
    have HV := Lib.hid hR
    replace L := Lib.hid L; replace NM := Lib.hid NM; replace KN := Lib.hid KN; replace FL := Lib.hid FL; replace NB := Lib.hid NB; replace SZ := Lib.hid SZ; replace VL := Lib.hid VL
    clear hR hk
    go_enter Tryz.func29, Tryz.ntmps29
    go_wp2_with fail
    refine (L.out _).mono ?_
    rintro x w1 ⟨rfl, b1⟩
    have K1 := Blk.made b1
    have d1 := below_step (alloc_one _ _) b1 (Nat.le_refl _)
    have F1 := K1.eleven
    go_wp2_with fail
    refine (NM.out _).mono ?_
    rintro x _ ⟨rfl, rfl⟩
    go_wp2_with fail
    refine (KN.out _).mono ?_
    rintro x w2 ⟨rfl, b2⟩
    replace K1 := K1.later b2
    replace d1 := below_step d1 b2 (Nat.le_refl _)
    replace F1 := K1.eleven
    go_wp2_with fail
    go_ret
    exact ⟨by rw [HV.out]; rfl, d1⟩
  rw [if_neg hk] at hR
  have hk2 : (!(Ty.kd ty).name.isEmpty) = true := by
    cases h : (Ty.kd ty).name with
    | nil => exact absurd h hk
    | cons a b => rfl
  rw [hk2] at KN
  clear hk hk2
  cases fb with
  | false =>
    rw [if_pos rfl] at hR
    have HV := Lib.hid hR
    replace L := Lib.hid L; replace NM := Lib.hid NM; replace KN := Lib.hid KN; replace FL := Lib.hid FL; replace NB := Lib.hid NB; replace SZ := Lib.hid SZ; replace VL := Lib.hid VL
    clear hR
    go_enter Tryz.func29, Tryz.ntmps29
    go_wp2_with fail
    refine (L.out _).mono ?_
    rintro x w1 ⟨rfl, b1⟩
    have K1 := Blk.made b1
    have d1 := below_step (alloc_one _ _) b1 (Nat.le_refl _)
    have F1 := K1.eleven
    go_wp2_with fail
    refine (NM.out _).mono ?_
    rintro x _ ⟨rfl, rfl⟩
    go_wp2_with fail
    refine (KN.out _).mono ?_
    rintro x w2 ⟨rfl, b2⟩
    replace K1 := K1.later b2
    replace d1 := below_step d1 b2 (Nat.le_refl _)
    replace F1 := K1.eleven
    go_wp2_with fail
    refine (FL.out _).mono ?_
    rintro x w3 ⟨rfl, b3⟩
    replace K1 := K1.later b3
    replace d1 := below_step d1 b3 (Nat.le_refl _)
    replace F1 := K1.eleven
    go_wp2_with fail
    go_ret
    exact ⟨by rw [HV.out]; rfl, d1⟩
  | true =>
  rw [if_neg (by decide)] at hR
  cases num with
  | true =>
    rw [show (if true = true then nb else sz) = nb from rfl] at hR
    cases nb with
    | false =>
      rw [if_pos rfl] at hR
      have HV := Lib.hid hR
      replace L := Lib.hid L; replace NM := Lib.hid NM; replace KN := Lib.hid KN; replace FL := Lib.hid FL; replace NB := Lib.hid NB; replace SZ := Lib.hid SZ; replace VL := Lib.hid VL
      clear hR
      go_enter Tryz.func29, Tryz.ntmps29
      go_wp2_with fail
      refine (L.out _).mono ?_
      rintro x w1 ⟨rfl, b1⟩
      have K1 := Blk.made b1
      have d1 := below_step (alloc_one _ _) b1 (Nat.le_refl _)
      have F1 := K1.eleven
      go_wp2_with fail
      refine (NM.out _).mono ?_
      rintro x _ ⟨rfl, rfl⟩
      go_wp2_with fail
      refine (KN.out _).mono ?_
      rintro x w2 ⟨rfl, b2⟩
      replace K1 := K1.later b2
      replace d1 := below_step d1 b2 (Nat.le_refl _)
      replace F1 := K1.eleven
      go_wp2_with fail
      refine (FL.out _).mono ?_
      rintro x w3 ⟨rfl, b3⟩
      replace K1 := K1.later b3
      replace d1 := below_step d1 b3 (Nat.le_refl _)
      replace F1 := K1.eleven
      go_wp2_with fail
      refine (NB.out _).mono ?_
      rintro x w4 ⟨rfl, b4⟩
      replace K1 := K1.later b4
      replace d1 := below_step d1 b4 (Nat.le_refl _)
      replace F1 := K1.eleven
      go_wp2_with fail
      go_ret
      exact ⟨by rw [HV.out]; rfl, d1⟩
    | true =>
      rw [if_neg (by decide)] at hR
      by_cases hv : vl = 0
      · subst hv
        rw [if_neg (by decide)] at hR
        have HV := Lib.hid hR
        replace L := Lib.hid L; replace NM := Lib.hid NM; replace KN := Lib.hid KN; replace FL := Lib.hid FL; replace NB := Lib.hid NB; replace SZ := Lib.hid SZ; replace VL := Lib.hid VL
        clear hR
        go_enter Tryz.func29, Tryz.ntmps29
        go_wp2_with fail
        refine (L.out _).mono ?_
        rintro x w1 ⟨rfl, b1⟩
        have K1 := Blk.made b1
        have d1 := below_step (alloc_one _ _) b1 (Nat.le_refl _)
        have F1 := K1.eleven
        go_wp2_with fail
        refine (NM.out _).mono ?_
        rintro x _ ⟨rfl, rfl⟩
        go_wp2_with fail
        refine (KN.out _).mono ?_
        rintro x w2 ⟨rfl, b2⟩
        replace K1 := K1.later b2
        replace d1 := below_step d1 b2 (Nat.le_refl _)
        replace F1 := K1.eleven
        go_wp2_with fail
        refine (FL.out _).mono ?_
        rintro x w3 ⟨rfl, b3⟩
        replace K1 := K1.later b3
        replace d1 := below_step d1 b3 (Nat.le_refl _)
        replace F1 := K1.eleven
        go_wp2_with fail
        refine (NB.out _).mono ?_
        rintro x w4 ⟨rfl, b4⟩
        replace K1 := K1.later b4
        replace d1 := below_step d1 b4 (Nat.le_refl _)
        replace F1 := K1.eleven
        go_wp2_with fail
        refine (VL.out _ d1).mono ?_
        rintro x w5 ⟨rfl, b5⟩
        replace K1 := K1.later b5
        replace d1 := below_step d1 b5 (Nat.le_refl _)
        replace F1 := K1.eleven
        go_wp2_with fail
        go_ret
        exact ⟨by rw [HV.out]; rfl, d1⟩
      · rw [if_pos hv] at hR
        have ev : (vl != 0) = true := by simpa using hv
        have HV := Lib.hid hR
        replace L := Lib.hid L; replace NM := Lib.hid NM; replace KN := Lib.hid KN; replace FL := Lib.hid FL; replace NB := Lib.hid NB; replace SZ := Lib.hid SZ; replace VL := Lib.hid VL
        clear hR hv
        go_enter Tryz.func29, Tryz.ntmps29
        go_wp2_with fail
        refine (L.out _).mono ?_
        rintro x w1 ⟨rfl, b1⟩
        have K1 := Blk.made b1
        have d1 := below_step (alloc_one _ _) b1 (Nat.le_refl _)
        have F1 := K1.eleven
        go_wp2_with fail
        refine (NM.out _).mono ?_
        rintro x _ ⟨rfl, rfl⟩
        go_wp2_with fail
        refine (KN.out _).mono ?_
        rintro x w2 ⟨rfl, b2⟩
        replace K1 := K1.later b2
        replace d1 := below_step d1 b2 (Nat.le_refl _)
        replace F1 := K1.eleven
        go_wp2_with fail
        refine (FL.out _).mono ?_
        rintro x w3 ⟨rfl, b3⟩
        replace K1 := K1.later b3
        replace d1 := below_step d1 b3 (Nat.le_refl _)
        replace F1 := K1.eleven
        go_wp2_with fail
        refine (NB.out _).mono ?_
        rintro x w4 ⟨rfl, b4⟩
        replace K1 := K1.later b4
        replace d1 := below_step d1 b4 (Nat.le_refl _)
        replace F1 := K1.eleven
        go_wp2_with fail
        refine (VL.out _ d1).mono ?_
        rintro x w5 ⟨rfl, b5⟩
        replace K1 := K1.later b5
        replace d1 := below_step d1 b5 (Nat.le_refl _)
        replace F1 := K1.eleven
        go_wp2_with fail
        go_ret
        exact ⟨by rw [HV.out]; rfl, d1⟩
  | false =>
    rw [show (if false = true then nb else sz) = sz from rfl] at hR
    cases sz with
    | false =>
      rw [if_pos rfl] at hR
      have HV := Lib.hid hR
      replace L := Lib.hid L; replace NM := Lib.hid NM; replace KN := Lib.hid KN; replace FL := Lib.hid FL; replace NB := Lib.hid NB; replace SZ := Lib.hid SZ; replace VL := Lib.hid VL
      clear hR
      go_enter Tryz.func29, Tryz.ntmps29
      go_wp2_with fail
      refine (L.out _).mono ?_
      rintro x w1 ⟨rfl, b1⟩
      have K1 := Blk.made b1
      have d1 := below_step (alloc_one _ _) b1 (Nat.le_refl _)
      have F1 := K1.eleven
      go_wp2_with fail
      refine (NM.out _).mono ?_
      rintro x _ ⟨rfl, rfl⟩
      go_wp2_with fail
      refine (KN.out _).mono ?_
      rintro x w2 ⟨rfl, b2⟩
      replace K1 := K1.later b2
      replace d1 := below_step d1 b2 (Nat.le_refl _)
      replace F1 := K1.eleven
      go_wp2_with fail
      refine (FL.out _).mono ?_
      rintro x w3 ⟨rfl, b3⟩
      replace K1 := K1.later b3
      replace d1 := below_step d1 b3 (Nat.le_refl _)
      replace F1 := K1.eleven
      go_wp2_with fail
      refine (SZ.out _).mono ?_
      rintro x w4 ⟨rfl, b4⟩
      replace K1 := K1.later b4
      replace d1 := below_step d1 b4 (Nat.le_refl _)
      replace F1 := K1.eleven
      go_wp2_with fail
      go_ret
      exact ⟨by rw [HV.out]; rfl, d1⟩
    | true =>
      rw [if_neg (by decide)] at hR
      by_cases hv : vl = 0
      · subst hv
        rw [if_neg (by decide)] at hR
        have HV := Lib.hid hR
        replace L := Lib.hid L; replace NM := Lib.hid NM; replace KN := Lib.hid KN; replace FL := Lib.hid FL; replace NB := Lib.hid NB; replace SZ := Lib.hid SZ; replace VL := Lib.hid VL
        clear hR
        go_enter Tryz.func29, Tryz.ntmps29
        go_wp2_with fail
        refine (L.out _).mono ?_
        rintro x w1 ⟨rfl, b1⟩
        have K1 := Blk.made b1
        have d1 := below_step (alloc_one _ _) b1 (Nat.le_refl _)
        have F1 := K1.eleven
        go_wp2_with fail
        refine (NM.out _).mono ?_
        rintro x _ ⟨rfl, rfl⟩
        go_wp2_with fail
        refine (KN.out _).mono ?_
        rintro x w2 ⟨rfl, b2⟩
        replace K1 := K1.later b2
        replace d1 := below_step d1 b2 (Nat.le_refl _)
        replace F1 := K1.eleven
        go_wp2_with fail
        refine (FL.out _).mono ?_
        rintro x w3 ⟨rfl, b3⟩
        replace K1 := K1.later b3
        replace d1 := below_step d1 b3 (Nat.le_refl _)
        replace F1 := K1.eleven
        go_wp2_with fail
        refine (SZ.out _).mono ?_
        rintro x w4 ⟨rfl, b4⟩
        replace K1 := K1.later b4
        replace d1 := below_step d1 b4 (Nat.le_refl _)
        replace F1 := K1.eleven
        go_wp2_with fail
        refine (VL.out _ d1).mono ?_
        rintro x w5 ⟨rfl, b5⟩
        replace K1 := K1.later b5
        replace d1 := below_step d1 b5 (Nat.le_refl _)
        replace F1 := K1.eleven
        go_wp2_with fail
        go_ret
        exact ⟨by rw [HV.out]; rfl, d1⟩
      · rw [if_pos hv] at hR
        have ev : (vl != 0) = true := by simpa using hv
        have HV := Lib.hid hR
        replace L := Lib.hid L; replace NM := Lib.hid NM; replace KN := Lib.hid KN; replace FL := Lib.hid FL; replace NB := Lib.hid NB; replace SZ := Lib.hid SZ; replace VL := Lib.hid VL
        clear hR hv
        go_enter Tryz.func29, Tryz.ntmps29
        go_wp2_with fail
        refine (L.out _).mono ?_
        rintro x w1 ⟨rfl, b1⟩
        have K1 := Blk.made b1
        have d1 := below_step (alloc_one _ _) b1 (Nat.le_refl _)
        have F1 := K1.eleven
        go_wp2_with fail
        refine (NM.out _).mono ?_
        rintro x _ ⟨rfl, rfl⟩
        go_wp2_with fail
        refine (KN.out _).mono ?_
        rintro x w2 ⟨rfl, b2⟩
        replace K1 := K1.later b2
        replace d1 := below_step d1 b2 (Nat.le_refl _)
        replace F1 := K1.eleven
        go_wp2_with fail
        refine (FL.out _).mono ?_
        rintro x w3 ⟨rfl, b3⟩
        replace K1 := K1.later b3
        replace d1 := below_step d1 b3 (Nat.le_refl _)
        replace F1 := K1.eleven
        go_wp2_with fail
        refine (SZ.out _).mono ?_
        rintro x w4 ⟨rfl, b4⟩
        replace K1 := K1.later b4
        replace d1 := below_step d1 b4 (Nat.le_refl _)
        replace F1 := K1.eleven
        go_wp2_with fail
        refine (VL.out _ d1).mono ?_
        rintro x w5 ⟨rfl, b5⟩
        replace K1 := K1.later b5
        replace d1 := below_step d1 b5 (Nat.le_refl _)
        replace F1 := K1.eleven
        go_wp2_with fail
        go_ret
        exact ⟨by rw [HV.out]; rfl, d1⟩
end Go.Proofs.YtmolmpgampmolaaGreat
/-
  Walks: Before of layer 14, and its reference.
  Conditions: none.
-/
namespace Go.Proofs.YtmolmpgampmolaaGreat
set_option linter.unusedVariables false
set_option linter.unusedSimpArgs false
open Go.RowKit
set_option maxRecDepth 100000 in
set_option maxHeartbeats 4000000 in
theorem Before_any (e e' : Ent.En) (A A' : Option Addr) (n c n' c' : Nat) (w : World) : Calls Tryz.prog 51 #[enV e A n c, enV e' A' n' c'] w fun x w' => x = .returned (.bool (Ent.befB e e')) ∧ Below w.heap.size w w' := by
  obtain ⟨ix, sb, nm, ty, ac, mp, st, mx, lo, hi, df⟩ := e
  unfold enV
  dsimp only
  obtain ⟨ix', sb', nm', ty', ac', mp', st', mx', lo', hi', df'⟩ := e'
  dsimp only
  by_cases h1 : ix = ix'
  · subst h1
    have hv : Ent.befB ⟨ix, sb, nm, ty, ac, mp, st, mx, lo, hi, df⟩ ⟨ix, sb', nm', ty', ac', mp', st', mx', lo', hi', df'⟩ = decide (sb < sb') := if_pos rfl
    rw [hv]
    have e1 : (ix != ix) = false := by simp
    have e2 : (ix == ix) = true := by simp
    have e3 : decide (ix < ix) = false := decide_eq_false (by omega)
    clear hv
    by_cases h2 : sb < sb'
    all_goals
      go_enter Tryz.func51, Tryz.ntmps51
      go_wp2_with fail
      go_ret
      exact ⟨ret_bool (by simp [h2] <;> omega), alloc_two _ _ _⟩
  · have hv : Ent.befB ⟨ix, sb, nm, ty, ac, mp, st, mx, lo, hi, df⟩ ⟨ix', sb', nm', ty', ac', mp', st', mx', lo', hi', df'⟩ = decide (ix < ix') := if_neg h1
    rw [hv]
    have e1 : (ix != ix') = true := by simpa using h1
    have e2 : (ix == ix') = false := beq_false_of_ne h1
    clear hv
    by_cases h2 : ix < ix'
    · have e3 : decide (ix < ix') = true := decide_eq_true h2
      clear h1
      go_enter Tryz.func51, Tryz.ntmps51
      go_wp2_with fail
      go_ret
      exact ⟨ret_bool (by simp [h2]), alloc_two _ _ _⟩
    · have e3 : decide (ix < ix') = false := decide_eq_false h2
      clear h1
      go_enter Tryz.func51, Tryz.ntmps51
      go_wp2_with fail
      go_ret
      exact ⟨ret_bool (by simp [h2]), alloc_two _ _ _⟩
set_option maxRecDepth 100000 in
set_option maxHeartbeats 4000000 in
theorem RBefore_any (e e' : Ent.En) (A A' : Option Addr) (n c n' c' : Nat) (w : World) : Calls Tryz.prog 24 #[enV e A n c, enV e' A' n' c'] w fun x w' => x = .returned (.bool (Ent.befB e e')) ∧ Below w.heap.size w w' := by
  obtain ⟨ix, sb, nm, ty, ac, mp, st, mx, lo, hi, df⟩ := e
  unfold enV
  dsimp only
  obtain ⟨ix', sb', nm', ty', ac', mp', st', mx', lo', hi', df'⟩ := e'
  dsimp only
  by_cases h1 : ix = ix'
  · subst h1
    have hv : Ent.befB ⟨ix, sb, nm, ty, ac, mp, st, mx, lo, hi, df⟩ ⟨ix, sb', nm', ty', ac', mp', st', mx', lo', hi', df'⟩ = decide (sb < sb') := if_pos rfl
    rw [hv]
    have e1 : (ix != ix) = false := by simp
    have e2 : (ix == ix) = true := by simp
    have e3 : decide (ix < ix) = false := decide_eq_false (by omega)
    clear hv
    by_cases h2 : sb < sb'
    all_goals
      go_enter Tryz.func24, Tryz.ntmps24
      go_wp2_with fail
      go_ret
      exact ⟨ret_bool (by simp [h2] <;> omega), alloc_two _ _ _⟩
  · have hv : Ent.befB ⟨ix, sb, nm, ty, ac, mp, st, mx, lo, hi, df⟩ ⟨ix', sb', nm', ty', ac', mp', st', mx', lo', hi', df'⟩ = decide (ix < ix') := if_neg h1
    rw [hv]
    have e1 : (ix != ix') = true := by simpa using h1
    have e2 : (ix == ix') = false := beq_false_of_ne h1
    clear hv
    by_cases h2 : ix < ix'
    · have e3 : decide (ix < ix') = true := decide_eq_true h2
      clear h1
      go_enter Tryz.func24, Tryz.ntmps24
      go_wp2_with fail
      go_ret
      exact ⟨ret_bool (by simp [h2]), alloc_two _ _ _⟩
    · have e3 : decide (ix < ix') = false := decide_eq_false h2
      clear h1
      go_enter Tryz.func24, Tryz.ntmps24
      go_wp2_with fail
      go_ret
      exact ⟨ret_bool (by simp [h2]), alloc_two _ _ _⟩
end Go.Proofs.YtmolmpgampmolaaGreat
/-
  Walk: types.number.
  Conditions: none.
-/
namespace Go.Proofs.YtmolmpgampmolaaGreat
set_option linter.unusedVariables false
set_option linter.unusedSimpArgs false
open Go.RowKit
theorem par_form {s : List UInt8} (h : Ty.formN s = false) : Ty.parN s = (0, 4) := by unfold Ty.parN; rw [if_pos h]
theorem form_nil {s : List UInt8} (h : Ty.rest s = []) : Ty.formN s = false := by unfold Ty.formN; rw [h]; rfl
theorem form_zero {s r : List UInt8} (h : Ty.rest s = 48 :: r) (hs : s ≠ [48]) : Ty.formN s = false := by
  unfold Ty.formN
  rw [h]
  simp [hs]
theorem form_all {s r : List UInt8} {i : Nat} (h : Ty.rest s = r) (hi : i < r.length) (hd : Ty.isD (r.getD i 0) = false) : Ty.formN s = false := by
  unfold Ty.formN
  rw [h]
  have : r.all Ty.isD = false := by
    cases hb : r.all Ty.isD with
    | false => rfl
    | true =>
      rw [List.all_eq_true] at hb
      have := hb r[i] (List.getElem_mem hi)
      rw [show r.getD i 0 = r[i] by simp [List.getD, hi]] at hd
      rw [hd] at this
      cases this
  rw [this, Bool.and_false]
theorem form_ok {s r : List UInt8} {c : UInt8} (h : Ty.rest s = c :: r) (hz : c ≠ 48 ∨ s = [48]) (hd : ∀ i, i < (c :: r).length → Ty.isD ((c :: r).getD i 0) = true) : Ty.formN s = true := by
  unfold Ty.formN
  rw [h]
  have : (c :: r).all Ty.isD = true := by
    rw [List.all_eq_true]
    intro x hx
    obtain ⟨i, hi, rfl⟩ := List.getElem_of_mem hx
    have := hd i hi
    rw [show (c :: r).getD i 0 = (c :: r)[i] by simp only [List.getD, List.getElem?_eq_getElem hi, Option.getD_some]] at this
    exact this
  rw [this]
  rcases hz with h | h <;> simp [h]
theorem par_range {s : List UInt8} (h : Ty.formN s = true) (hr : 9223372036854775808 < Ty.valD (Ty.rest s) ∨ (Ty.valD (Ty.rest s) = 9223372036854775808 ∧ Ty.minus s = false)) : Ty.parN s = (0, 9) := by
  unfold Ty.parN
  rw [if_neg (by rw [h]; decide), if_pos hr]
theorem par_minus {s : List UInt8} (h : Ty.formN s = true) (hm : Ty.minus s = true) (hr : Ty.valD (Ty.rest s) ≤ 9223372036854775808) : Ty.parN s = (-(Ty.valD (Ty.rest s) : Int), 0) := by
  unfold Ty.parN
  rw [if_neg (by rw [h]; decide), if_neg (by rw [hm]; simp; omega), if_pos hm]
theorem par_plus {s : List UInt8} (h : Ty.formN s = true) (hm : Ty.minus s = false) (hr : Ty.valD (Ty.rest s) < 9223372036854775808) : Ty.parN s = ((Ty.valD (Ty.rest s) : Int), 0) := by
  unfold Ty.parN
  rw [if_neg (by rw [h]; decide), if_neg (by omega), if_neg (by rw [hm]; decide)]
theorem rest_minus (r : List UInt8) : Ty.rest (45 :: r) = r ∧ Ty.minus (45 :: r) = true := ⟨rfl, rfl⟩
theorem rest_plus {c : UInt8} (r : List UInt8) (h : c ≠ 45) : Ty.rest (c :: r) = c :: r ∧ Ty.minus (c :: r) = false := by
  have hm : Ty.minus (c :: r) = false := by unfold Ty.minus; simp [h]
  exact ⟨by unfold Ty.rest; rw [hm]; rfl, hm⟩
/-- What the loop over the first k digits has. -/
structure ParRel (r : List UInt8) (k v : Nat) (e : Int) : Prop where
  hi : v ≤ 9223372036854775809
  dig : ∀ j, j < k → Ty.isD (r.getD j 0) = true
  val : (e = 0 ∧ v = Ty.valD (r.take k)) ∨ (e = 9 ∧ 922337203685477580 < v ∧ 9223372036854775808 < Ty.valD (r.take k))
theorem valD_take {r : List UInt8} {k : Nat} (hk : k < r.length) : Ty.valD (r.take (k + 1)) = 10 * Ty.valD (r.take k) + ((r.getD k 0).toNat - 48) := by
  rw [List.take_succ_eq_append_getElem hk, Ty.valD_snoc]
  simp [List.getD, hk]
theorem ParRel.start (r : List UInt8) : ParRel r 0 0 0 := ⟨by omega, fun j hj => absurd hj (by omega), .inl ⟨rfl, rfl⟩⟩
theorem ParRel.next {r : List UInt8} {k v : Nat} {e : Int} (h : ParRel r k v e) (hk : k < r.length) (hd : Ty.isD (r.getD k 0) = true) (v' : Nat) (e' : Int)
    (hs : (922337203685477580 < v ∧ v' = v ∧ e' = 9) ∨ (v ≤ 922337203685477580 ∧ v' = 10 * v + ((r.getD k 0).toNat - 48) ∧ e' = e)) : ParRel r (k + 1) v' e' := by
  have hc : 48 ≤ (r.getD k 0).toNat ∧ (r.getD k 0).toNat ≤ 57 := of_decide_eq_true hd
  have h1 := h.hi
  have hdig : ∀ j, j < k + 1 → Ty.isD (r.getD j 0) = true := fun j hj => by
    rcases Nat.lt_or_ge j k with h2 | h2
    · exact h.dig j h2
    · obtain rfl : j = k := by omega
      exact hd
  have ht := valD_take hk
  rcases hs with ⟨a1, rfl, rfl⟩ | ⟨a1, rfl, rfl⟩
  · refine ⟨h1, hdig, .inr ⟨rfl, a1, ?_⟩⟩
    rcases h.val with ⟨_, b2⟩ | ⟨_, _, b3⟩
    · rw [ht, ← b2]; omega
    · rw [ht]; omega
  · refine ⟨by omega, hdig, .inl ?_⟩
    rcases h.val with ⟨b1, b2⟩ | ⟨_, b2, _⟩
    · exact ⟨b1, by rw [ht, ← b2]⟩
    · omega
def parRes (p : Int × Int) : Ending := .returned (.tuple #[.int .i64 p.1, .int .i64 p.2])
theorem par_ret {p : Int × Int} {a b : Int} (h : p = (a, b)) : Ending.returned (.tuple #[.int .i64 a, .int .i64 b]) = parRes p := by rw [h]; rfl
theorem neg_u64 (v : Nat) (h : v ≤ 9223372036854775808) : IntKind.i64.wrap (IntKind.u64.wrap (-(v : Int))) = -(v : Int) := by
  rw [IntKind.wrap_u64, IntKind.wrap_i64]
  omega
theorem dig_no {c : UInt8} (h : c.toNat < 48 ∨ 57 < c.toNat) : Ty.isD c = false := decide_eq_false (by omega)
set_option maxRecDepth 100000 in
set_option maxHeartbeats 8000000 in
theorem number_any (s : List UInt8) (w : World) (hs : s.length ≤ 1000000) : Calls Tryz.prog 98 #[.string (T s)] w fun e w' => e = parRes (Ty.parN s) ∧ w = w' := by
  have hTs := T_toList s
  rcases (show (s = [] ∨ s = [45]) ∨ (∃ r, (s = 45 :: 48 :: r) ∨ (s = 48 :: r ∧ s ≠ [48])) ∨ (∃ d r, s = 45 :: d :: r ∧ d ≠ 48) ∨ s = [48] ∨ (∃ c r, s = c :: r ∧ c ≠ 45 ∧ c ≠ 48) by
    cases s with
    | nil => exact .inl (.inl rfl)
    | cons c r0 =>
      by_cases h45 : c = 45
      · subst h45
        cases r0 with
        | nil => exact .inl (.inr rfl)
        | cons d r =>
          by_cases h48 : d = 48
          · subst h48; exact .inr (.inl ⟨r, .inl rfl⟩)
          · exact .inr (.inr (.inl ⟨d, r, rfl, h48⟩))
      · by_cases h48 : c = 48
        · subst h48
          by_cases hr : r0 = []
          · subst hr; exact .inr (.inr (.inr (.inl rfl)))
          · exact .inr (.inl ⟨r0, .inr ⟨rfl, by simpa using hr⟩⟩)
        · exact .inr (.inr (.inr (.inr ⟨c, r0, rfl, h45, h48⟩)))) with (rfl | rfl) | ⟨r, rfl | ⟨rfl, h48⟩⟩ | ⟨d, r, rfl, h48⟩ | rfl | ⟨c, r, rfl, h45, h48⟩
  · have HF := Lib.hid (par_form (form_nil (s := []) rfl))
    go_enter Tryz.func98, Tryz.ntmps98
    go_wp2_with fail
    go_ret2
    exact ⟨par_ret HF.out, rfl⟩
  · have HF := Lib.hid (par_form (form_nil (s := [45]) rfl))
    have hat0 := fun w => run_T_at [45] .i64 0 0 rfl (by simp) w
    rw [show ((([45] : List UInt8).getD 0 0).toNat : Int) = 45 from rfl] at hat0
    have hcut := fun w => run_T_rest [45] .i64 1 1 rfl (by simp) w
    rw [show List.drop 1 ([45] : List UInt8) = [] from rfl] at hcut
    have hT0 := T_toList []
    go_enter Tryz.func98, Tryz.ntmps98
    go_wp2_with fail
    go_ret2
    exact ⟨par_ret HF.out, rfl⟩
  · have HF := Lib.hid (par_form (form_zero (s := 45 :: 48 :: r) (r := r) rfl (by simp)))
    have hat0 := fun w => run_T_at (45 :: 48 :: r) .i64 0 0 rfl (by simp) w
    rw [show (((45 :: 48 :: r : List UInt8).getD 0 0).toNat : Int) = 45 from rfl] at hat0
    have hcut := fun w => run_T_rest (45 :: 48 :: r) .i64 1 1 rfl (by simp) w
    rw [show List.drop 1 (45 :: 48 :: r : List UInt8) = 48 :: r from rfl] at hcut
    have hat1 := fun w => run_T_at (48 :: r) .i64 0 0 rfl (by simp) w
    rw [show (((48 :: r : List UInt8).getD 0 0).toNat : Int) = 48 from rfl] at hat1
    have hT0 := T_toList (48 :: r)
    have hb : ((45 :: 48 :: r : List UInt8) == [48]) = false := by simp
    go_enter Tryz.func98, Tryz.ntmps98
    go_wp2_with fail
    go_ret2
    exact ⟨par_ret HF.out, rfl⟩
  · have HF := Lib.hid (par_form (form_zero (s := 48 :: r) (r := r) (rest_plus r (by decide)).1 h48))
    have hat1 := fun w => run_T_at (48 :: r) .i64 0 0 rfl (by simp) w
    rw [show (((48 :: r : List UInt8).getD 0 0).toNat : Int) = 48 from rfl] at hat1
    have hb : ((48 :: r : List UInt8) == [48]) = false := by rw [beq_eq_false_iff_ne]; exact h48
    clear h48
    go_enter Tryz.func98, Tryz.ntmps98
    go_wp2_with fail
    go_ret2
    exact ⟨par_ret HF.out, rfl⟩
  case' inr.inr.inl =>
    have hat0 := fun w => run_T_at (45 :: d :: r) .i64 0 0 rfl (by simp) w
    rw [show (((45 :: d :: r : List UInt8).getD 0 0).toNat : Int) = 45 from rfl] at hat0
    have hcut := fun w => run_T_rest (45 :: d :: r) .i64 1 1 rfl (by simp) w
    rw [show List.drop 1 (45 :: d :: r : List UInt8) = d :: r from rfl] at hcut
    have hat1 := fun w => run_T_at (d :: r) .i64 0 0 rfl (by simp) w
    rw [show (((d :: r : List UInt8).getD 0 0).toNat : Int) = (d.toNat : Int) from rfl] at hat1
    have hT0 := T_toList (d :: r)
    have hx : ((d.toNat : Int) == 48) = false := byte_beq d 48 ▸ (by simpa using h48)
    have hne : (d :: r : List UInt8).isEmpty = false := rfl
    have hne2 : (45 :: d :: r : List UInt8).isEmpty = false := rfl
    have HOK := Lib.hid (fun hd => form_ok (s := 45 :: d :: r) (c := d) (r := r) rfl (.inl h48) hd)
    have HBAD := Lib.hid (fun i (hi : i < (d :: r).length) hd => form_all (s := 45 :: d :: r) (r := d :: r) rfl hi hd)
    obtain ⟨mn, hmn⟩ : ∃ mn, mn = true := ⟨_, rfl⟩
    have HM := Lib.hid (show Ty.minus (45 :: d :: r) = mn by rw [hmn]; rfl)
    have HR := Lib.hid (show Ty.rest (45 :: d :: r) = d :: r from rfl)
    have hl : (d :: r).length ≤ 1000000 := by simp at hs ⊢; omega
    generalize (45 :: d :: r : List UInt8) = s at *
    generalize (d :: r : List UInt8) = l at *
    clear hs h48
    subst hmn
  case' inr.inr.inr.inl =>
    have hat1 := fun w => run_T_at ([48] : List UInt8) .i64 0 0 rfl (by simp) w
    rw [show (((([48] : List UInt8)).getD 0 0).toNat : Int) = 48 from rfl] at hat1
    have hT0 := T_toList ([48] : List UInt8)
    have hne : ([48] : List UInt8).isEmpty = false := rfl
    have HOK := Lib.hid (fun hd => form_ok (s := [48]) (c := 48) (r := []) rfl (.inr rfl) hd)
    have HBAD := Lib.hid (fun i (hi : i < ([48] : List UInt8).length) hd => form_all (s := [48]) (r := [48]) rfl hi hd)
    have HM := Lib.hid (show Ty.minus [48] = false from rfl)
    have HR := Lib.hid (show Ty.rest [48] = [48] from rfl)
    have hl : ([48] : List UInt8).length ≤ 1000000 := by simp
    generalize hl48 : ([48] : List UInt8) = l at *
    have hx : (l == [48]) = true := by rw [← hl48]; rfl
    clear hs hl48
  case' inr.inr.inr.inr =>
    have hat1 := fun w => run_T_at (c :: r) .i64 0 0 rfl (by simp) w
    rw [show ((((c :: r)).getD 0 0).toNat : Int) = (c.toNat : Int) from rfl] at hat1
    have hT0 := T_toList (c :: r)
    have hx : ((c.toNat : Int) == 48) = false := byte_beq c 48 ▸ (by simpa using h48)
    have hx2 : ((c.toNat : Int) == 45) = false := byte_beq c 45 ▸ (by simpa using h45)
    have hne : (c :: r).isEmpty = false := rfl
    have HOK := Lib.hid (fun hd => form_ok (s := c :: r) (c := c) (r := r) (rest_plus r h45).1 (.inl h48) hd)
    have HBAD := Lib.hid (fun i (hi : i < (c :: r).length) hd => form_all (s := c :: r) (r := c :: r) (rest_plus r h45).1 hi hd)
    have HM := Lib.hid (rest_plus r h45).2
    have HR := Lib.hid (rest_plus r h45).1
    have hl : (c :: r).length ≤ 1000000 := hs
    generalize (c :: r) = l at *
    clear hs h48 h45
  all_goals
    go_enter Tryz.func98, Tryz.ntmps98
    go_wp2_with fail
    go_loop [6, 7, 33] (fun v e i => ∃ (k V : Nat) (E : Int), k ≤ l.length ∧ i = .int .i64 k ∧ v = .int .u64 (V : Int) ∧ e = .int .i64 E ∧ ParRel l k V E) (fun _ _ i => l.length - (intOf i).toNat)
    case atStart => exact ⟨0, 0, 0, by omega, rfl, rfl, rfl, ParRel.start l⟩
    case round =>
      obtain ⟨k, V, E, hk, rfl, rfl, rfl, hrel⟩ := hrel
      have hV := hrel.hi
      have HREL := Lib.hid hrel; clear hrel
      by_cases hlt : k < l.length
      · have hat := fun w => run_T_at l .i64 (k : Int) k rfl hlt w
        have hx3 := byte_lt (l.getD k 0)
        have hnx := HREL.out.next hlt
        have hbad := HBAD.out k hlt
        generalize l.getD k 0 = x at *
        have HNX := Lib.hid hnx; have HB := Lib.hid hbad
        clear hnx hbad hat1
        rcases (show x.toNat < 48 ∨ (48 ≤ x.toNat ∧ 57 < x.toNat) ∨ (48 ≤ x.toNat ∧ x.toNat ≤ 57) by omega) with h | ⟨h1, h2⟩ | ⟨h1, h2⟩
        · have HF := Lib.hid (par_form (HB.out (dig_no (.inl h))))
          go_wp2_with fail
          go_ret2
          exact ⟨par_ret HF.out, rfl⟩
        · have HF := Lib.hid (par_form (HB.out (dig_no (.inr h2))))
          go_wp2_with fail
          go_ret2
          exact ⟨par_ret HF.out, rfl⟩
        · have hD : Ty.isD x = true := decide_eq_true ⟨h1, h2⟩
          have HD := Lib.hid hD; clear hD
          by_cases hbig : 922337203685477580 < V
          · go_wp2_with fail
            go_round
            case rel => exact ⟨k + 1, V, 9, by omega, by go_num, rfl, rfl, HNX.out HD.out V 9 (.inl ⟨hbig, rfl, rfl⟩)⟩
            case measure => simp [intOf] <;> omega
          · have hsm : V ≤ 922337203685477580 := by omega
            clear hbig
            go_wp2_with fail
            go_round
            case rel => exact ⟨k + 1, 10 * V + (x.toNat - 48), E, by omega, by go_num, by go_num, rfl, HNX.out HD.out _ E (.inr ⟨hsm, rfl, rfl⟩)⟩
            case measure => simp [intOf] <;> omega
      · obtain rfl : k = l.length := by omega
        have htk : l.take l.length = l := List.take_length
        have hval := HREL.out.val
        rw [htk] at hval
        have HF := Lib.hid (HOK.out fun i hi => HREL.out.dig i hi)
        have HVAL := Lib.hid hval
        clear htk hat1 hval
        by_cases hE : E = 0
        · subst hE
          have hv : V = Ty.valD l := by rcases HVAL.out with h | ⟨h, _⟩; exact h.2; exact absurd h (by decide)
          have HV := Lib.hid hv; clear hv
          rcases (show 9223372036854775808 < V ∨ V = 9223372036854775808 ∨ V < 9223372036854775808 by omega) with h | rfl | h
          · have HP := Lib.hid (par_range HF.out (.inl (by rw [HR.out, ← HV.out]; exact h)))
            go_wp2_with fail
            go_ret2
            exact ⟨par_ret HP.out, rfl⟩
          · have hw0 : wrap64 (IntKind.u64.wrap (-9223372036854775808)) = -9223372036854775808 := by decide +kernel
            go_wp2_with fail
            go_ret2
            first
              | exact ⟨par_ret (par_range HF.out (.inr ⟨by rw [HR.out, ← HV.out], HM.out⟩)), rfl⟩
              | exact ⟨by rw [par_minus HF.out HM.out (by rw [HR.out, ← HV.out]; exact Nat.le_refl _), HR.out, ← HV.out]; rfl, rfl⟩
          · have hw1 : IntKind.i64.wrap (IntKind.u64.wrap (-(V : Int))) = -(V : Int) := neg_u64 V (by omega)
            have HW := Lib.hid h
            have hw2 : IntKind.i64.wrap (V : Int) = (V : Int) := by rw [IntKind.wrap_i64]; omega
            go_wp2_with fail
            go_ret2
            first
              | exact ⟨par_ret (by rw [par_plus HF.out HM.out (by rw [HR.out, ← HV.out]; exact HW.out), HR.out, ← HV.out]), rfl⟩
              | exact ⟨par_ret (by rw [par_minus HF.out HM.out (by rw [HR.out, ← HV.out]; have := HW.out; omega), HR.out, ← HV.out]), rfl⟩
        · have hb : (E != 0) = true := by simpa using hE
          have HP : Hid (Ty.parN _ = (0, 9)) := Lib.hid (par_range HF.out (.inl (by
            rw [HR.out]
            rcases HVAL.out with h | h
            · exact absurd h.1 hE
            · exact h.2.2)))
          clear hE
          go_wp2_with fail
          go_ret2
          exact ⟨par_ret HP.out, rfl⟩
end Go.Proofs.YtmolmpgampmolaaGreat
