/-
  Texts joined: EntRR0, EntRRT, EntRRF, EntRRight.
  Conditions: none.
-/
import Derived.Test.YtmolmpgampmolaaGreatJ10
import Derived.Test.YtmolmpgampmolaaGreatJ12
/-
  Walk: Right of layer 14's reference.
  Conditions: none.
-/
namespace Go.Proofs.YtmolmpgampmolaaGreat
set_option linter.unusedVariables false
set_option linter.unusedSimpArgs false
open Go.RowKit
theorem flags_iff {e : Ent.En} : Ent.flagsB e = true ↔ 1 ≤ e.access ∧ e.access ≤ 4 ∧ (e.store = true → 3 ≤ e.access) ∧ (e.map = true → e.access ≠ 1) := by
  unfold Ent.flagsB
  by_cases h1 : e.access = 1
  · rw [if_pos h1, h1]; cases e.store <;> cases e.map <;> simp
  · rw [if_neg h1]
    by_cases h2 : e.access = 2
    · rw [if_pos h2, h2]; cases e.store <;> simp
    · rw [if_neg h2]
      simp only [decide_eq_true_eq]
      constructor
      · intro h; exact ⟨by omega, by omega, fun _ => by omega, fun _ => h1⟩
      · intro h; omega
theorem bad_flags {e : Ent.En} (h : ¬ (1 ≤ e.access ∧ e.access ≤ 4 ∧ (e.store = true → 3 ≤ e.access) ∧ (e.map = true → e.access ≠ 1))) : Ent.flagsB e = false := by
  cases hf : Ent.flagsB e with
  | false => rfl
  | true => exact absurd (flags_iff.1 hf) h
theorem bad_number {e : Ent.En} {l h : Int} (hn : ¬ (e.max = 0 ∧ l ≤ e.low ∧ e.low ≤ e.high ∧ e.high ≤ h)) : Ent.numberedB e l h = false := decide_eq_false hn
theorem good_number {e : Ent.En} {l h : Int} (hn : e.max = 0 ∧ l ≤ e.low ∧ e.low ≤ e.high ∧ e.high ≤ h) : Ent.numberedB e l h = true := decide_eq_true hn
theorem bad_size {e : Ent.En} (hn : ¬ (e.low = 0 ∧ e.high = 0 ∧ 1 ≤ e.max ∧ e.max ≤ 256 ∧ e.map = false)) : Ent.sizedB e = false := by
  unfold Ent.sizedB
  by_cases h : e.low = 0 ∧ e.high = 0 ∧ 1 ≤ e.max ∧ e.max ≤ 256
  · cases hm : e.map with
    | false => exact absurd ⟨h.1, h.2.1, h.2.2.1, h.2.2.2, hm⟩ hn
    | true => simp
  · rw [decide_eq_false h]; rfl
theorem good_size {e : Ent.En} (hn : e.low = 0 ∧ e.high = 0 ∧ 1 ≤ e.max ∧ e.max ≤ 256 ∧ e.map = false) : Ent.sizedB e = true := by
  unfold Ent.sizedB
  rw [decide_eq_true ⟨hn.1, hn.2.1, hn.2.2.1, hn.2.2.2.1⟩, hn.2.2.2.2]
  rfl
end Go.Proofs.YtmolmpgampmolaaGreat
/-
  Walk: Right of layer 14's reference (numbers).
  Conditions: none.
-/
namespace Go.Proofs.YtmolmpgampmolaaGreat
set_option linter.unusedVariables false
set_option linter.unusedSimpArgs false
open Go.RowKit
set_option maxRecDepth 100000 in
set_option maxHeartbeats 4000000 in
theorem RRight_true (e : Ent.En) {A : Option Addr} {n c B : Nat} (w : World) (hb : RB w B A n c e.dflt) (hB : B ≤ w.heap.size) (hn : e.name.length ≤ 9223372036854775807) (g1 : 1 ≤ e.index ∧ e.index ≤ 65535 ∧ 0 ≤ e.sub ∧ e.sub ≤ 255) (g2 : Ent.nameB e.name = true) (g3 : (Ty.kd e.type).name ≠ []) (g4 : 1 ≤ e.access ∧ e.access ≤ 4) (g6 : (Ty.limS e.type).2.2 = true) : Calls Tryz.prog 23 #[enV e A n c] w fun x w' => x = .returned (.int .i64 (Ent.rightS e)) ∧ Below w.heap.size w w' := by
  obtain ⟨ix, sb, nm, ty, ac, mp, st, mx, lo, hi, df⟩ := e
  dsimp only at hb hn g1 g2 g3 g4 g6
  have L := fun w => RLimits_any ty w
  have NM := fun w => RName14_any nm w hn
  have KN := fun w => RKnown_any ty w
  have VL := RValue_any ⟨ix, sb, nm, ty, ac, mp, st, mx, lo, hi, df⟩ A n c (w.alloc (.cells #[.int .i64 ix, .int .i64 sb, .string (T nm), .int .i64 ty, .int .i64 ac, .bool mp, .bool st, .int .i64 mx, .int .i64 lo, .int .i64 hi, .slice A n c] 31)) (hb.alloc hB _) (by simp; omega)
  unfold knownB at KN
  unfold enV at *
  dsimp only at *
  have hR : Ent.rightS ⟨ix, sb, nm, ty, ac, mp, st, mx, lo, hi, df⟩ = if ix < 1 ∨ 65535 < ix ∨ sb < 0 ∨ 255 < sb then 9 else if Ent.nameB nm = false then 14 else if (Ty.kd ty).name = [] then 15 else if Ent.flagsB ⟨ix, sb, nm, ty, ac, mp, st, mx, lo, hi, df⟩ = false then 1 else if (if (Ty.limS ty).2.2 = true then Ent.numberedB ⟨ix, sb, nm, ty, ac, mp, st, mx, lo, hi, df⟩ (Ty.limS ty).1 (Ty.limS ty).2.1 else Ent.sizedB ⟨ix, sb, nm, ty, ac, mp, st, mx, lo, hi, df⟩) = false then 1 else if Ent.valS ⟨ix, sb, nm, ty, ac, mp, st, mx, lo, hi, df⟩ df ≠ 0 then 4 else 0 := rfl
  generalize Ent.rightS ⟨ix, sb, nm, ty, ac, mp, st, mx, lo, hi, df⟩ = res at *
  generalize Ent.valS ⟨ix, sb, nm, ty, ac, mp, st, mx, lo, hi, df⟩ df = vl at *
  generalize Ent.nameB nm = nmb at *
  generalize (Ty.limS ty).1 = llo at *
  generalize (Ty.limS ty).2.1 = lhi at *
  generalize (Ty.limS ty).2.2 = num at *
  clear hb hn
  subst g2
  subst g6
  obtain ⟨r1, r2, r3, r4⟩ := g1
  obtain ⟨a1, a2⟩ := g4
  rw [if_neg (by omega)] at hR
  rw [if_neg (by decide)] at hR
  rw [if_neg g3] at hR
  have hk2 : (!(Ty.kd ty).name.isEmpty) = true := by
    cases h : (Ty.kd ty).name with
    | nil => exact absurd h g3
    | cons a b => rfl
  rw [hk2] at KN
  clear g3 hk2
  have a1' : ¬ ac < 1 := by omega
  have a2' : ¬ 4 < ac := by omega
  have one : ∀ b : Bool, (if Ent.flagsB ⟨ix, sb, nm, ty, ac, mp, st, mx, lo, hi, df⟩ = false then (1 : Int) else if b = false then 1 else if vl ≠ 0 then 4 else 0) = if b = false then 1 else if Ent.flagsB ⟨ix, sb, nm, ty, ac, mp, st, mx, lo, hi, df⟩ = false then 1 else if vl ≠ 0 then 4 else 0 := fun b => by cases b <;> cases Ent.flagsB ⟨ix, sb, nm, ty, ac, mp, st, mx, lo, hi, df⟩ <;> simp
  rw [one] at hR
  clear one
  rw [show (if true = true then Ent.numberedB ⟨ix, sb, nm, ty, ac, mp, st, mx, lo, hi, df⟩ llo lhi else Ent.sizedB ⟨ix, sb, nm, ty, ac, mp, st, mx, lo, hi, df⟩) = Ent.numberedB ⟨ix, sb, nm, ty, ac, mp, st, mx, lo, hi, df⟩ llo lhi from rfl] at hR
  by_cases n1 : mx ≠ 0
  · rw [if_pos (bad_number (by dsimp only; omega))] at hR
    have e0 : (mx != 0) = true := by simpa using n1
    clear n1
    have HV := Lib.hid hR
    clear hR
    replace L := Lib.hid L; replace NM := Lib.hid NM; replace KN := Lib.hid KN; replace VL := Lib.hid VL
    go_enter Tryz.func23, Tryz.ntmps23
    go_wp2_with fail
    refine (L.out _).mono ?_
    rintro x _ ⟨rfl, rfl⟩
    go_wp2_with fail
    refine (NM.out _).mono ?_
    rintro x _ ⟨rfl, rfl⟩
    go_wp2_with fail
    refine (KN.out _).mono ?_
    rintro x _ ⟨rfl, rfl⟩
    go_wp2_with fail
    go_ret
    exact ⟨by rw [HV.out]; rfl, alloc_one _ _⟩
  have n0 : mx = 0 := by omega
  subst n0
  clear n1
  by_cases n2 : lo < llo
  · rw [if_pos (bad_number (by dsimp only; omega))] at hR
    have HV := Lib.hid hR
    clear hR
    replace L := Lib.hid L; replace NM := Lib.hid NM; replace KN := Lib.hid KN; replace VL := Lib.hid VL
    go_enter Tryz.func23, Tryz.ntmps23
    go_wp2_with fail
    refine (L.out _).mono ?_
    rintro x _ ⟨rfl, rfl⟩
    go_wp2_with fail
    refine (NM.out _).mono ?_
    rintro x _ ⟨rfl, rfl⟩
    go_wp2_with fail
    refine (KN.out _).mono ?_
    rintro x _ ⟨rfl, rfl⟩
    go_wp2_with fail
    go_ret
    exact ⟨by rw [HV.out]; rfl, alloc_one _ _⟩
  by_cases n3 : lhi < hi
  · rw [if_pos (bad_number (by dsimp only; omega))] at hR
    have HV := Lib.hid hR
    clear hR
    replace L := Lib.hid L; replace NM := Lib.hid NM; replace KN := Lib.hid KN; replace VL := Lib.hid VL
    go_enter Tryz.func23, Tryz.ntmps23
    go_wp2_with fail
    refine (L.out _).mono ?_
    rintro x _ ⟨rfl, rfl⟩
    go_wp2_with fail
    refine (NM.out _).mono ?_
    rintro x _ ⟨rfl, rfl⟩
    go_wp2_with fail
    refine (KN.out _).mono ?_
    rintro x _ ⟨rfl, rfl⟩
    go_wp2_with fail
    go_ret
    exact ⟨by rw [HV.out]; rfl, alloc_one _ _⟩
  by_cases n4 : hi < lo
  · rw [if_pos (bad_number (by dsimp only; omega))] at hR
    have HV := Lib.hid hR
    clear hR
    replace L := Lib.hid L; replace NM := Lib.hid NM; replace KN := Lib.hid KN; replace VL := Lib.hid VL
    go_enter Tryz.func23, Tryz.ntmps23
    go_wp2_with fail
    refine (L.out _).mono ?_
    rintro x _ ⟨rfl, rfl⟩
    go_wp2_with fail
    refine (NM.out _).mono ?_
    rintro x _ ⟨rfl, rfl⟩
    go_wp2_with fail
    refine (KN.out _).mono ?_
    rintro x _ ⟨rfl, rfl⟩
    go_wp2_with fail
    go_ret
    exact ⟨by rw [HV.out]; rfl, alloc_one _ _⟩
  rw [if_neg (by rw [good_number (by dsimp only; omega)]; decide)] at hR
  by_cases s1 : st = true ∧ ac < 3
  · rw [if_pos (bad_flags (by dsimp only; intro h; have := h.2.2.1 s1.1; omega))] at hR
    obtain ⟨rfl, s2⟩ := s1
    have HV := Lib.hid hR
    clear hR
    replace L := Lib.hid L; replace NM := Lib.hid NM; replace KN := Lib.hid KN; replace VL := Lib.hid VL
    go_enter Tryz.func23, Tryz.ntmps23
    go_wp2_with fail
    refine (L.out _).mono ?_
    rintro x _ ⟨rfl, rfl⟩
    go_wp2_with fail
    refine (NM.out _).mono ?_
    rintro x _ ⟨rfl, rfl⟩
    go_wp2_with fail
    refine (KN.out _).mono ?_
    rintro x _ ⟨rfl, rfl⟩
    go_wp2_with fail
    go_ret
    exact ⟨by rw [HV.out]; rfl, alloc_one _ _⟩
  by_cases m1 : mp = true ∧ ac = 1
  · rw [if_pos (bad_flags (by dsimp only; intro h; exact h.2.2.2 m1.1 m1.2))] at hR
    obtain ⟨rfl, rfl⟩ := m1
    have s3 : st = false := by cases st with | false => rfl | true => exact absurd ⟨rfl, by decide⟩ s1
    subst s3
    clear s1
    have HV := Lib.hid hR
    clear hR
    replace L := Lib.hid L; replace NM := Lib.hid NM; replace KN := Lib.hid KN; replace VL := Lib.hid VL
    go_enter Tryz.func23, Tryz.ntmps23
    go_wp2_with fail
    refine (L.out _).mono ?_
    rintro x _ ⟨rfl, rfl⟩
    go_wp2_with fail
    refine (NM.out _).mono ?_
    rintro x _ ⟨rfl, rfl⟩
    go_wp2_with fail
    refine (KN.out _).mono ?_
    rintro x _ ⟨rfl, rfl⟩
    go_wp2_with fail
    go_ret
    exact ⟨by rw [HV.out]; rfl, alloc_one _ _⟩
  rw [if_neg (by rw [flags_iff.2 ⟨by dsimp only; omega, by dsimp only; omega, fun h => by dsimp only at h ⊢; have : ¬ ac < 3 := fun h3 => s1 ⟨h, h3⟩; omega, fun h => by dsimp only at h ⊢; exact fun h3 => m1 ⟨h, h3⟩⟩]; decide)] at hR
  have e1 : mp = true → (ac == 1) = false := fun h => beq_false_of_ne fun h3 => m1 ⟨h, h3⟩
  have e2 : st = true → ¬ ac < 3 := fun h h3 => s1 ⟨h, h3⟩
  clear s1 m1
  by_cases hv : vl = 0
  · subst hv
    rw [if_neg (by decide)] at hR
    have HV := Lib.hid hR
    clear hR
    replace L := Lib.hid L; replace NM := Lib.hid NM; replace KN := Lib.hid KN; replace VL := Lib.hid VL
    cases st <;> cases mp
    all_goals
      first | (have e1' := e1 rfl) | skip
      first | (have e2' := e2 rfl) | skip
      clear e1 e2
      go_enter Tryz.func23, Tryz.ntmps23
      go_wp2_with fail
      refine (L.out _).mono ?_
      rintro x _ ⟨rfl, rfl⟩
      go_wp2_with fail
      refine (NM.out _).mono ?_
      rintro x _ ⟨rfl, rfl⟩
      go_wp2_with fail
      refine (KN.out _).mono ?_
      rintro x _ ⟨rfl, rfl⟩
      go_wp2_with fail
      refine (VL.out).mono ?_
      rintro x w5 ⟨rfl, b5⟩
      have d5 := below_step (alloc_one _ _) b5 (Nat.le_refl _)
      go_wp2_with fail
      go_ret
      exact ⟨by rw [HV.out]; rfl, d5⟩
  · rw [if_pos hv] at hR
    have ev : (vl != 0) = true := by simpa using hv
    have HV := Lib.hid hR
    clear hR hv
    replace L := Lib.hid L; replace NM := Lib.hid NM; replace KN := Lib.hid KN; replace VL := Lib.hid VL
    cases st <;> cases mp
    all_goals
      first | (have e1' := e1 rfl) | skip
      first | (have e2' := e2 rfl) | skip
      clear e1 e2
      go_enter Tryz.func23, Tryz.ntmps23
      go_wp2_with fail
      refine (L.out _).mono ?_
      rintro x _ ⟨rfl, rfl⟩
      go_wp2_with fail
      refine (NM.out _).mono ?_
      rintro x _ ⟨rfl, rfl⟩
      go_wp2_with fail
      refine (KN.out _).mono ?_
      rintro x _ ⟨rfl, rfl⟩
      go_wp2_with fail
      refine (VL.out).mono ?_
      rintro x w5 ⟨rfl, b5⟩
      have d5 := below_step (alloc_one _ _) b5 (Nat.le_refl _)
      go_wp2_with fail
      go_ret
      exact ⟨by rw [HV.out]; rfl, d5⟩
end Go.Proofs.YtmolmpgampmolaaGreat
/-
  Walk: Right of layer 14's reference (texts).
  Conditions: none.
-/
namespace Go.Proofs.YtmolmpgampmolaaGreat
set_option linter.unusedVariables false
set_option linter.unusedSimpArgs false
open Go.RowKit
set_option maxRecDepth 100000 in
set_option maxHeartbeats 4000000 in
theorem RRight_false (e : Ent.En) {A : Option Addr} {n c B : Nat} (w : World) (hb : RB w B A n c e.dflt) (hB : B ≤ w.heap.size) (hn : e.name.length ≤ 9223372036854775807) (g1 : 1 ≤ e.index ∧ e.index ≤ 65535 ∧ 0 ≤ e.sub ∧ e.sub ≤ 255) (g2 : Ent.nameB e.name = true) (g3 : (Ty.kd e.type).name ≠ []) (g4 : 1 ≤ e.access ∧ e.access ≤ 4) (g6 : (Ty.limS e.type).2.2 = false) : Calls Tryz.prog 23 #[enV e A n c] w fun x w' => x = .returned (.int .i64 (Ent.rightS e)) ∧ Below w.heap.size w w' := by
  obtain ⟨ix, sb, nm, ty, ac, mp, st, mx, lo, hi, df⟩ := e
  dsimp only at hb hn g1 g2 g3 g4 g6
  have L := fun w => RLimits_any ty w
  have NM := fun w => RName14_any nm w hn
  have KN := fun w => RKnown_any ty w
  have VL := RValue_any ⟨ix, sb, nm, ty, ac, mp, st, mx, lo, hi, df⟩ A n c (w.alloc (.cells #[.int .i64 ix, .int .i64 sb, .string (T nm), .int .i64 ty, .int .i64 ac, .bool mp, .bool st, .int .i64 mx, .int .i64 lo, .int .i64 hi, .slice A n c] 31)) (hb.alloc hB _) (by simp; omega)
  unfold knownB at KN
  unfold enV at *
  dsimp only at *
  have hR : Ent.rightS ⟨ix, sb, nm, ty, ac, mp, st, mx, lo, hi, df⟩ = if ix < 1 ∨ 65535 < ix ∨ sb < 0 ∨ 255 < sb then 9 else if Ent.nameB nm = false then 14 else if (Ty.kd ty).name = [] then 15 else if Ent.flagsB ⟨ix, sb, nm, ty, ac, mp, st, mx, lo, hi, df⟩ = false then 1 else if (if (Ty.limS ty).2.2 = true then Ent.numberedB ⟨ix, sb, nm, ty, ac, mp, st, mx, lo, hi, df⟩ (Ty.limS ty).1 (Ty.limS ty).2.1 else Ent.sizedB ⟨ix, sb, nm, ty, ac, mp, st, mx, lo, hi, df⟩) = false then 1 else if Ent.valS ⟨ix, sb, nm, ty, ac, mp, st, mx, lo, hi, df⟩ df ≠ 0 then 4 else 0 := rfl
  generalize Ent.rightS ⟨ix, sb, nm, ty, ac, mp, st, mx, lo, hi, df⟩ = res at *
  generalize Ent.valS ⟨ix, sb, nm, ty, ac, mp, st, mx, lo, hi, df⟩ df = vl at *
  generalize Ent.nameB nm = nmb at *
  generalize (Ty.limS ty).1 = llo at *
  generalize (Ty.limS ty).2.1 = lhi at *
  generalize (Ty.limS ty).2.2 = num at *
  clear hb hn
  subst g2
  subst g6
  obtain ⟨r1, r2, r3, r4⟩ := g1
  obtain ⟨a1, a2⟩ := g4
  rw [if_neg (by omega)] at hR
  rw [if_neg (by decide)] at hR
  rw [if_neg g3] at hR
  have hk2 : (!(Ty.kd ty).name.isEmpty) = true := by
    cases h : (Ty.kd ty).name with
    | nil => exact absurd h g3
    | cons a b => rfl
  rw [hk2] at KN
  clear g3 hk2
  have a1' : ¬ ac < 1 := by omega
  have a2' : ¬ 4 < ac := by omega
  have one : ∀ b : Bool, (if Ent.flagsB ⟨ix, sb, nm, ty, ac, mp, st, mx, lo, hi, df⟩ = false then (1 : Int) else if b = false then 1 else if vl ≠ 0 then 4 else 0) = if b = false then 1 else if Ent.flagsB ⟨ix, sb, nm, ty, ac, mp, st, mx, lo, hi, df⟩ = false then 1 else if vl ≠ 0 then 4 else 0 := fun b => by cases b <;> cases Ent.flagsB ⟨ix, sb, nm, ty, ac, mp, st, mx, lo, hi, df⟩ <;> simp
  rw [one] at hR
  clear one
  rw [show (if false = true then Ent.numberedB ⟨ix, sb, nm, ty, ac, mp, st, mx, lo, hi, df⟩ llo lhi else Ent.sizedB ⟨ix, sb, nm, ty, ac, mp, st, mx, lo, hi, df⟩) = Ent.sizedB ⟨ix, sb, nm, ty, ac, mp, st, mx, lo, hi, df⟩ from rfl] at hR
  by_cases n1 : lo ≠ 0
  · rw [if_pos (bad_size (by dsimp only; omega))] at hR
    have e0 : (lo != 0) = true := by simpa using n1
    clear n1
    have HV := Lib.hid hR
    clear hR
    replace L := Lib.hid L; replace NM := Lib.hid NM; replace KN := Lib.hid KN; replace VL := Lib.hid VL
    go_enter Tryz.func23, Tryz.ntmps23
    go_wp2_with fail
    refine (L.out _).mono ?_
    rintro x _ ⟨rfl, rfl⟩
    go_wp2_with fail
    refine (NM.out _).mono ?_
    rintro x _ ⟨rfl, rfl⟩
    go_wp2_with fail
    refine (KN.out _).mono ?_
    rintro x _ ⟨rfl, rfl⟩
    go_wp2_with fail
    go_ret
    exact ⟨by rw [HV.out]; rfl, alloc_one _ _⟩
  have n0 : lo = 0 := by omega
  subst n0
  clear n1
  by_cases n2 : hi ≠ 0
  · rw [if_pos (bad_size (by dsimp only; omega))] at hR
    have e0 : (hi != 0) = true := by simpa using n2
    clear n2
    have HV := Lib.hid hR
    clear hR
    replace L := Lib.hid L; replace NM := Lib.hid NM; replace KN := Lib.hid KN; replace VL := Lib.hid VL
    go_enter Tryz.func23, Tryz.ntmps23
    go_wp2_with fail
    refine (L.out _).mono ?_
    rintro x _ ⟨rfl, rfl⟩
    go_wp2_with fail
    refine (NM.out _).mono ?_
    rintro x _ ⟨rfl, rfl⟩
    go_wp2_with fail
    refine (KN.out _).mono ?_
    rintro x _ ⟨rfl, rfl⟩
    go_wp2_with fail
    go_ret
    exact ⟨by rw [HV.out]; rfl, alloc_one _ _⟩
  have n0 : hi = 0 := by omega
  subst n0
  clear n2
  by_cases n3 : mx < 1
  · rw [if_pos (bad_size (by dsimp only; omega))] at hR
    have HV := Lib.hid hR
    clear hR
    replace L := Lib.hid L; replace NM := Lib.hid NM; replace KN := Lib.hid KN; replace VL := Lib.hid VL
    go_enter Tryz.func23, Tryz.ntmps23
    go_wp2_with fail
    refine (L.out _).mono ?_
    rintro x _ ⟨rfl, rfl⟩
    go_wp2_with fail
    refine (NM.out _).mono ?_
    rintro x _ ⟨rfl, rfl⟩
    go_wp2_with fail
    refine (KN.out _).mono ?_
    rintro x _ ⟨rfl, rfl⟩
    go_wp2_with fail
    go_ret
    exact ⟨by rw [HV.out]; rfl, alloc_one _ _⟩
  by_cases n4 : 256 < mx
  · rw [if_pos (bad_size (by dsimp only; omega))] at hR
    have HV := Lib.hid hR
    clear hR
    replace L := Lib.hid L; replace NM := Lib.hid NM; replace KN := Lib.hid KN; replace VL := Lib.hid VL
    go_enter Tryz.func23, Tryz.ntmps23
    go_wp2_with fail
    refine (L.out _).mono ?_
    rintro x _ ⟨rfl, rfl⟩
    go_wp2_with fail
    refine (NM.out _).mono ?_
    rintro x _ ⟨rfl, rfl⟩
    go_wp2_with fail
    refine (KN.out _).mono ?_
    rintro x _ ⟨rfl, rfl⟩
    go_wp2_with fail
    go_ret
    exact ⟨by rw [HV.out]; rfl, alloc_one _ _⟩
  by_cases n5 : mp = true
  · rw [if_pos (bad_size (by dsimp only; rw [n5]; simp))] at hR
    subst n5
    have HV := Lib.hid hR
    clear hR
    replace L := Lib.hid L; replace NM := Lib.hid NM; replace KN := Lib.hid KN; replace VL := Lib.hid VL
    go_enter Tryz.func23, Tryz.ntmps23
    go_wp2_with fail
    refine (L.out _).mono ?_
    rintro x _ ⟨rfl, rfl⟩
    go_wp2_with fail
    refine (NM.out _).mono ?_
    rintro x _ ⟨rfl, rfl⟩
    go_wp2_with fail
    refine (KN.out _).mono ?_
    rintro x _ ⟨rfl, rfl⟩
    go_wp2_with fail
    go_ret
    exact ⟨by rw [HV.out]; rfl, alloc_one _ _⟩
  have n6 : mp = false := by simpa using n5
  subst n6
  clear n5
  rw [if_neg (by rw [good_size (by dsimp only; exact ⟨rfl, rfl, by omega, by omega, rfl⟩)]; decide)] at hR
  by_cases s1 : st = true ∧ ac < 3
  · rw [if_pos (bad_flags (by dsimp only; intro h; have := h.2.2.1 s1.1; omega))] at hR
    obtain ⟨rfl, s2⟩ := s1
    have HV := Lib.hid hR
    clear hR
    replace L := Lib.hid L; replace NM := Lib.hid NM; replace KN := Lib.hid KN; replace VL := Lib.hid VL
    go_enter Tryz.func23, Tryz.ntmps23
    go_wp2_with fail
    refine (L.out _).mono ?_
    rintro x _ ⟨rfl, rfl⟩
    go_wp2_with fail
    refine (NM.out _).mono ?_
    rintro x _ ⟨rfl, rfl⟩
    go_wp2_with fail
    refine (KN.out _).mono ?_
    rintro x _ ⟨rfl, rfl⟩
    go_wp2_with fail
    go_ret
    exact ⟨by rw [HV.out]; rfl, alloc_one _ _⟩
  by_cases m1 : false = true ∧ ac = 1
  · rw [if_pos (bad_flags (by dsimp only; intro h; exact h.2.2.2 m1.1 m1.2))] at hR
    exact absurd m1.1 (by decide)
  rw [if_neg (by rw [flags_iff.2 ⟨by dsimp only; omega, by dsimp only; omega, fun h => by dsimp only at h ⊢; have : ¬ ac < 3 := fun h3 => s1 ⟨h, h3⟩; omega, fun h => by dsimp only at h ⊢; exact fun h3 => m1 ⟨h, h3⟩⟩]; decide)] at hR
  have e1 : false = true → (ac == 1) = false := fun h => beq_false_of_ne fun h3 => m1 ⟨h, h3⟩
  have e2 : st = true → ¬ ac < 3 := fun h h3 => s1 ⟨h, h3⟩
  clear s1 m1
  by_cases hv : vl = 0
  · subst hv
    rw [if_neg (by decide)] at hR
    have HV := Lib.hid hR
    clear hR
    replace L := Lib.hid L; replace NM := Lib.hid NM; replace KN := Lib.hid KN; replace VL := Lib.hid VL
    cases st
    all_goals
      first | (have e1' := e1 rfl) | skip
      first | (have e2' := e2 rfl) | skip
      clear e1 e2
      go_enter Tryz.func23, Tryz.ntmps23
      go_wp2_with fail
      refine (L.out _).mono ?_
      rintro x _ ⟨rfl, rfl⟩
      go_wp2_with fail
      refine (NM.out _).mono ?_
      rintro x _ ⟨rfl, rfl⟩
      go_wp2_with fail
      refine (KN.out _).mono ?_
      rintro x _ ⟨rfl, rfl⟩
      go_wp2_with fail
      refine (VL.out).mono ?_
      rintro x w5 ⟨rfl, b5⟩
      have d5 := below_step (alloc_one _ _) b5 (Nat.le_refl _)
      go_wp2_with fail
      go_ret
      exact ⟨by rw [HV.out]; rfl, d5⟩
  · rw [if_pos hv] at hR
    have ev : (vl != 0) = true := by simpa using hv
    have HV := Lib.hid hR
    clear hR hv
    replace L := Lib.hid L; replace NM := Lib.hid NM; replace KN := Lib.hid KN; replace VL := Lib.hid VL
    cases st
    all_goals
      first | (have e1' := e1 rfl) | skip
      first | (have e2' := e2 rfl) | skip
      clear e1 e2
      go_enter Tryz.func23, Tryz.ntmps23
      go_wp2_with fail
      refine (L.out _).mono ?_
      rintro x _ ⟨rfl, rfl⟩
      go_wp2_with fail
      refine (NM.out _).mono ?_
      rintro x _ ⟨rfl, rfl⟩
      go_wp2_with fail
      refine (KN.out _).mono ?_
      rintro x _ ⟨rfl, rfl⟩
      go_wp2_with fail
      refine (VL.out).mono ?_
      rintro x w5 ⟨rfl, b5⟩
      have d5 := below_step (alloc_one _ _) b5 (Nat.le_refl _)
      go_wp2_with fail
      go_ret
      exact ⟨by rw [HV.out]; rfl, d5⟩
end Go.Proofs.YtmolmpgampmolaaGreat
/-
  Walk: Right of layer 14's reference.
  Conditions: none.
-/
namespace Go.Proofs.YtmolmpgampmolaaGreat
set_option linter.unusedVariables false
set_option linter.unusedSimpArgs false
open Go.RowKit
set_option maxRecDepth 100000 in
set_option maxHeartbeats 4000000 in
theorem RRight_any (e : Ent.En) {A : Option Addr} {n c B : Nat} (w : World) (hb : RB w B A n c e.dflt) (hB : B ≤ w.heap.size) (hn : e.name.length ≤ 9223372036854775807) : Calls Tryz.prog 23 #[enV e A n c] w fun x w' => x = .returned (.int .i64 (Ent.rightS e)) ∧ Below w.heap.size w w' := by
  have RT := RRight_true e w hb hB hn
  have RF := RRight_false e w hb hB hn
  obtain ⟨ix, sb, nm, ty, ac, mp, st, mx, lo, hi, df⟩ := e
  dsimp only at hb hn
  have L := fun w => RLimits_any ty w
  have NM := fun w => RName14_any nm w hn
  have KN := fun w => RKnown_any ty w
  have VL := RValue_any ⟨ix, sb, nm, ty, ac, mp, st, mx, lo, hi, df⟩ A n c (w.alloc (.cells #[.int .i64 ix, .int .i64 sb, .string (T nm), .int .i64 ty, .int .i64 ac, .bool mp, .bool st, .int .i64 mx, .int .i64 lo, .int .i64 hi, .slice A n c] 31)) (hb.alloc hB _) (by simp; omega)
  unfold knownB at KN
  unfold enV at *
  dsimp only at *
  have hR : Ent.rightS ⟨ix, sb, nm, ty, ac, mp, st, mx, lo, hi, df⟩ = if ix < 1 ∨ 65535 < ix ∨ sb < 0 ∨ 255 < sb then 9 else if Ent.nameB nm = false then 14 else if (Ty.kd ty).name = [] then 15 else if Ent.flagsB ⟨ix, sb, nm, ty, ac, mp, st, mx, lo, hi, df⟩ = false then 1 else if (if (Ty.limS ty).2.2 = true then Ent.numberedB ⟨ix, sb, nm, ty, ac, mp, st, mx, lo, hi, df⟩ (Ty.limS ty).1 (Ty.limS ty).2.1 else Ent.sizedB ⟨ix, sb, nm, ty, ac, mp, st, mx, lo, hi, df⟩) = false then 1 else if Ent.valS ⟨ix, sb, nm, ty, ac, mp, st, mx, lo, hi, df⟩ df ≠ 0 then 4 else 0 := rfl
  have RT2 := RT
  have RF2 := RF
  clear RT RF
  generalize hnum : (Ty.limS ty).2.2 = num at *
  have HNUM := Lib.hid hnum
  clear hnum
  have RT := Lib.hid RT2; have RF := Lib.hid RF2
  clear RT2 RF2
  generalize Ent.rightS ⟨ix, sb, nm, ty, ac, mp, st, mx, lo, hi, df⟩ = res at *
  generalize Ent.valS ⟨ix, sb, nm, ty, ac, mp, st, mx, lo, hi, df⟩ df = vl at *
  generalize hnb : Ent.nameB nm = nmb at *
  have HNB := Lib.hid hnb
  clear hnb
  generalize (Ty.limS ty).1 = llo at *
  generalize (Ty.limS ty).2.1 = lhi at *
  clear hb hn
  by_cases r1 : ix < 1
  · rw [if_pos (by omega)] at hR
    have HV := Lib.hid hR
    clear hR
    replace L := Lib.hid L; replace NM := Lib.hid NM; replace KN := Lib.hid KN; replace VL := Lib.hid VL
    go_enter Tryz.func23, Tryz.ntmps23
    go_wp2_with fail
    refine (L.out _).mono ?_
    rintro x _ ⟨rfl, rfl⟩
    go_wp2_with fail
    go_ret
    exact ⟨by rw [HV.out]; rfl, alloc_one _ _⟩
  by_cases r2 : 65535 < ix
  · rw [if_pos (by omega)] at hR
    have HV := Lib.hid hR
    clear hR
    replace L := Lib.hid L; replace NM := Lib.hid NM; replace KN := Lib.hid KN; replace VL := Lib.hid VL
    go_enter Tryz.func23, Tryz.ntmps23
    go_wp2_with fail
    refine (L.out _).mono ?_
    rintro x _ ⟨rfl, rfl⟩
    go_wp2_with fail
    go_ret
    exact ⟨by rw [HV.out]; rfl, alloc_one _ _⟩
  by_cases r3 : sb < 0
  · rw [if_pos (by omega)] at hR
    have HV := Lib.hid hR
    clear hR
    replace L := Lib.hid L; replace NM := Lib.hid NM; replace KN := Lib.hid KN; replace VL := Lib.hid VL
    go_enter Tryz.func23, Tryz.ntmps23
    go_wp2_with fail
    refine (L.out _).mono ?_
    rintro x _ ⟨rfl, rfl⟩
    go_wp2_with fail
    go_ret
    exact ⟨by rw [HV.out]; rfl, alloc_one _ _⟩
  by_cases r4 : 255 < sb
  · rw [if_pos (by omega)] at hR
    have HV := Lib.hid hR
    clear hR
    replace L := Lib.hid L; replace NM := Lib.hid NM; replace KN := Lib.hid KN; replace VL := Lib.hid VL
    go_enter Tryz.func23, Tryz.ntmps23
    go_wp2_with fail
    refine (L.out _).mono ?_
    rintro x _ ⟨rfl, rfl⟩
    go_wp2_with fail
    go_ret
    exact ⟨by rw [HV.out]; rfl, alloc_one _ _⟩
  rw [if_neg (by omega)] at hR
  cases nmb with
  | false =>
    rw [if_pos rfl] at hR
    have HV := Lib.hid hR
    clear hR
    replace L := Lib.hid L; replace NM := Lib.hid NM; replace KN := Lib.hid KN; replace VL := Lib.hid VL
    go_enter Tryz.func23, Tryz.ntmps23
    go_wp2_with fail
    refine (L.out _).mono ?_
    rintro x _ ⟨rfl, rfl⟩
    go_wp2_with fail
    refine (NM.out _).mono ?_
    rintro x _ ⟨rfl, rfl⟩
    go_wp2_with fail
    go_ret
    exact ⟨by rw [HV.out]; rfl, alloc_one _ _⟩
  | true =>
  rw [if_neg (by decide)] at hR
  by_cases hk : (Ty.kd ty).name = []
  · rw [if_pos hk] at hR
    rw [hk] at KN
    have HV := Lib.hid hR
    clear hR hk
    replace L := Lib.hid L; replace NM := Lib.hid NM; replace KN := Lib.hid KN; replace VL := Lib.hid VL
    go_enter Tryz.func23, Tryz.ntmps23
    go_wp2_with fail
    refine (L.out _).mono ?_
    rintro x _ ⟨rfl, rfl⟩
    go_wp2_with fail
    refine (NM.out _).mono ?_
    rintro x _ ⟨rfl, rfl⟩
    go_wp2_with fail
    refine (KN.out _).mono ?_
    rintro x _ ⟨rfl, rfl⟩
    go_wp2_with fail
    go_ret
    exact ⟨by rw [HV.out]; rfl, alloc_one _ _⟩
  rw [if_neg hk] at hR
  have hk2 : (!(Ty.kd ty).name.isEmpty) = true := by
    cases h : (Ty.kd ty).name with
    | nil => exact absurd h hk
    | cons a b => rfl
  rw [hk2] at KN
  clear hk2
  by_cases a1 : ac < 1
  · rw [if_pos (bad_flags (by dsimp only; omega))] at hR
    have HV := Lib.hid hR
    clear hR
    replace L := Lib.hid L; replace NM := Lib.hid NM; replace KN := Lib.hid KN; replace VL := Lib.hid VL
    go_enter Tryz.func23, Tryz.ntmps23
    go_wp2_with fail
    refine (L.out _).mono ?_
    rintro x _ ⟨rfl, rfl⟩
    go_wp2_with fail
    refine (NM.out _).mono ?_
    rintro x _ ⟨rfl, rfl⟩
    go_wp2_with fail
    refine (KN.out _).mono ?_
    rintro x _ ⟨rfl, rfl⟩
    go_wp2_with fail
    go_ret
    exact ⟨by rw [HV.out]; rfl, alloc_one _ _⟩
  by_cases a2 : 4 < ac
  · rw [if_pos (bad_flags (by dsimp only; omega))] at hR
    have HV := Lib.hid hR
    clear hR
    replace L := Lib.hid L; replace NM := Lib.hid NM; replace KN := Lib.hid KN; replace VL := Lib.hid VL
    go_enter Tryz.func23, Tryz.ntmps23
    go_wp2_with fail
    refine (L.out _).mono ?_
    rintro x _ ⟨rfl, rfl⟩
    go_wp2_with fail
    refine (NM.out _).mono ?_
    rintro x _ ⟨rfl, rfl⟩
    go_wp2_with fail
    refine (KN.out _).mono ?_
    rintro x _ ⟨rfl, rfl⟩
    go_wp2_with fail
    go_ret
    exact ⟨by rw [HV.out]; rfl, alloc_one _ _⟩
  cases num with
  | true => exact RT.out ⟨by omega, by omega, by omega, by omega⟩ rfl hk ⟨by omega, by omega⟩ rfl
  | false => exact RF.out ⟨by omega, by omega, by omega, by omega⟩ rfl hk ⟨by omega, by omega⟩ rfl
end Go.Proofs.YtmolmpgampmolaaGreat
