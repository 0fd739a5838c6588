/-
  Texts joined: EntVal, DicRead, DicSeek, DicFind, DicOwn.
  Conditions: none.
-/
import Derived.Test.YtbmocffnnlfnjaaGreatJ04
import Derived.Test.YtbmocffnnlfnjaaGreatJ05
import Derived.Test.YtbmocffnnlfnjaaGreatJ06
import Derived.Test.YtbmocffnnlfnjaaGreatJ07
import Derived.Test.YtbmocffnnlfnjaaGreatJ08
import Derived.Deep.QuietTactic
import Derived.BigQuiet
/-
  Walks: values of entries, program and reference.
  Conditions: none.
-/
namespace Go.Proofs.YtbmocffnnlfnjaaGreat
set_option linter.unusedVariables false
set_option linter.unusedSimpArgs false
open Go.RowKit
set_option maxRecDepth 100000 in
set_option maxHeartbeats 4000000 in
theorem enumber_any (e : Ent.En) (A : Option Addr) (n c : Nat) {A' : Option Addr} {n' c' B : Nat} {l : List UInt8} (w : World) (hb : RB w B A' n' c' l) (hB : B ≤ w.heap.size) : Calls Tryz.prog 82 #[enV e A n c, .slice A' n' c'] w fun x w' => x = .returned (.int .u32 (Ent.numS e l)) ∧ Below w.heap.size w w' := by
  obtain ⟨ix, sb, nm, ty, ac, mp, st, mx, lo, hi, df⟩ := e
  unfold enV
  dsimp only
  have D := Decode_any ty (w.alloc (.cells #[.int .i64 ix, .int .i64 sb, .string (T nm), .int .i64 ty, .int .i64 ac, .bool mp, .bool st, .int .i64 mx, .int .i64 lo, .int .i64 hi, .slice A n c] 63)) (hb.alloc hB _) (by simp; omega)
  have hv : Ent.numS ⟨ix, sb, nm, ty, ac, mp, st, mx, lo, hi, df⟩ l = if (Ty.decS ty l).2 = 2 then 101122067 else if (Ty.decS ty l).2 = 3 then 101122066 else if (Ty.decS ty l).2 ≠ 0 then 101253168 else if (Ty.decS ty l).1 < lo then 101253170 else if hi < (Ty.decS ty l).1 then 101253169 else 0 := rfl
  rw [hv]
  generalize (Ty.decS ty l).1 = z at *
  generalize (Ty.decS ty l).2 = f at *
  replace D := Lib.hid D
  clear hv hb
  by_cases h2 : f = 2
  · subst h2
    rw [if_pos rfl]
    go_enter Tryz.func82, Tryz.ntmps82
    go_wp2_with fail
    refine (D.out).mono ?_
    rintro e w1 ⟨rfl, b1⟩
    have K1 := (Blk.made b1).eleven
    have d1 := below_step (alloc_one _ _) b1 (Nat.le_refl _)
    go_wp2_with fail
    go_ret
    exact ⟨rfl, d1⟩
  rw [if_neg h2]
  have e2 : (f == 2) = false := beq_false_of_ne h2
  by_cases h3 : f = 3
  · subst h3
    rw [if_pos rfl]
    go_enter Tryz.func82, Tryz.ntmps82
    go_wp2_with fail
    refine (D.out).mono ?_
    rintro e w1 ⟨rfl, b1⟩
    have K1 := (Blk.made b1).eleven
    have d1 := below_step (alloc_one _ _) b1 (Nat.le_refl _)
    go_wp2_with fail
    go_ret
    exact ⟨rfl, d1⟩
  rw [if_neg h3]
  have e3 : (f == 3) = false := beq_false_of_ne h3
  by_cases h0 : f = 0
  · subst h0
    rw [if_neg (by decide)]
    by_cases h4 : z < lo
    · rw [if_pos h4]
      go_enter Tryz.func82, Tryz.ntmps82
      go_wp2_with fail
      refine (D.out).mono ?_
      rintro e w1 ⟨rfl, b1⟩
      have K1 := (Blk.made b1).eleven
      have d1 := below_step (alloc_one _ _) b1 (Nat.le_refl _)
      go_wp2_with fail
      go_ret
      exact ⟨rfl, d1⟩
    rw [if_neg h4]
    by_cases h5 : hi < z
    · rw [if_pos h5]
      go_enter Tryz.func82, Tryz.ntmps82
      go_wp2_with fail
      refine (D.out).mono ?_
      rintro e w1 ⟨rfl, b1⟩
      have K1 := (Blk.made b1).eleven
      have d1 := below_step (alloc_one _ _) b1 (Nat.le_refl _)
      go_wp2_with fail
      go_ret
      exact ⟨rfl, d1⟩
    rw [if_neg h5]
    go_enter Tryz.func82, Tryz.ntmps82
    go_wp2_with fail
    refine (D.out).mono ?_
    rintro e w1 ⟨rfl, b1⟩
    have K1 := (Blk.made b1).eleven
    have d1 := below_step (alloc_one _ _) b1 (Nat.le_refl _)
    go_wp2_with fail
    go_ret
    exact ⟨rfl, d1⟩
  rw [if_pos h0]
  have e0 : (f != 0) = true := by simpa using h0
  have e0' : (f == 0) = false := beq_false_of_ne h0
  clear h2 h3 h0
  go_enter Tryz.func82, Tryz.ntmps82
  go_wp2_with fail
  refine (D.out).mono ?_
  rintro e w1 ⟨rfl, b1⟩
  have K1 := (Blk.made b1).eleven
  have d1 := below_step (alloc_one _ _) b1 (Nat.le_refl _)
  go_wp2_with fail
  go_ret
  exact ⟨rfl, d1⟩
set_option maxRecDepth 100000 in
set_option maxHeartbeats 4000000 in
theorem EValue_any (e : Ent.En) (A : Option Addr) (n c : Nat) {A' : Option Addr} {n' c' B : Nat} {l : List UInt8} (w : World) (hb : RB w B A' n' c' l) (hB : B ≤ w.heap.size) : Calls Tryz.prog 61 #[enV e A n c, .slice A' n' c'] w fun x w' => x = .returned (.int .u32 (Ent.valS e l)) ∧ Below w.heap.size w w' := by
  have hval : Ent.valS e l = if 0 < (Ty.kd e.type).bits then Ent.numS e l else if Ty.checkS e.type e.max l = 0 then 0 else if Ty.checkS e.type e.max l = 3 then 101122066 else if Ty.checkS e.type e.max l = 4 then 101253168 else 100925511 := rfl
  rw [hval]
  have N := fun (w1 : World) (h : Below w.heap.size w w1) => enumber_any e A n c w1 (hb.below (h.mono hB)) (Nat.le_trans hB h.size)
  have C := fun (w1 : World) (h : Below w.heap.size w w1) => Check_any e.type e.max w1 (hb.below (h.mono hB)) (Nat.le_trans hB h.size)
  generalize Ent.numS e l = num at *
  generalize Ty.checkS e.type e.max l = ck at *
  obtain ⟨ix, sb, nm, ty, ac, mp, st, mx, lo, hi, df⟩ := e
  unfold enV
  unfold enV at N
  dsimp only at *
  have TB := fun w => TBits_any ty w
  replace N := Lib.hid N; replace C := Lib.hid C; replace TB := Lib.hid TB
  clear hval hb
  generalize (Ty.kd ty).bits = bt at *
  by_cases hbt : 0 < bt
  · rw [if_pos hbt]
    go_enter Tryz.func61, Tryz.ntmps61
    go_wp2_with fail
    refine (TB.out _).mono ?_
    rintro e w1 ⟨rfl, b1⟩
    have K1 := (Blk.made b1).eleven
    have d1 := below_step (alloc_one _ _) b1 (Nat.le_refl _)
    go_wp2_with fail
    refine (N.out _ d1).mono ?_
    rintro e w2 ⟨rfl, b2⟩
    go_wp2_with fail
    go_ret
    exact ⟨rfl, below_step d1 b2 (Nat.le_refl _)⟩
  rw [if_neg hbt]
  have ebt : bt = 0 := by omega
  subst ebt
  clear hbt
  by_cases h0 : ck = 0
  · subst h0
    simp only [Int.reduceEq, if_true, if_false]
    go_enter Tryz.func61, Tryz.ntmps61
    go_wp2_with fail
    refine (TB.out _).mono ?_
    rintro e w1 ⟨rfl, b1⟩
    have K1 := (Blk.made b1).eleven
    have d1 := below_step (alloc_one _ _) b1 (Nat.le_refl _)
    go_wp2_with fail
    refine (C.out _ d1).mono ?_
    rintro e w2 ⟨rfl, b2⟩
    go_wp2_with fail
    go_ret
    exact ⟨rfl, below_step d1 b2 (Nat.le_refl _)⟩
  by_cases h3 : ck = 3
  · subst h3
    simp only [Int.reduceEq, if_true, if_false]
    go_enter Tryz.func61, Tryz.ntmps61
    go_wp2_with fail
    refine (TB.out _).mono ?_
    rintro e w1 ⟨rfl, b1⟩
    have K1 := (Blk.made b1).eleven
    have d1 := below_step (alloc_one _ _) b1 (Nat.le_refl _)
    go_wp2_with fail
    refine (C.out _ d1).mono ?_
    rintro e w2 ⟨rfl, b2⟩
    go_wp2_with fail
    go_ret
    exact ⟨rfl, below_step d1 b2 (Nat.le_refl _)⟩
  by_cases h4 : ck = 4
  · subst h4
    simp only [Int.reduceEq, if_true, if_false]
    go_enter Tryz.func61, Tryz.ntmps61
    go_wp2_with fail
    refine (TB.out _).mono ?_
    rintro e w1 ⟨rfl, b1⟩
    have K1 := (Blk.made b1).eleven
    have d1 := below_step (alloc_one _ _) b1 (Nat.le_refl _)
    go_wp2_with fail
    refine (C.out _ d1).mono ?_
    rintro e w2 ⟨rfl, b2⟩
    go_wp2_with fail
    go_ret
    exact ⟨rfl, below_step d1 b2 (Nat.le_refl _)⟩
  rw [if_neg h0, if_neg h3, if_neg h4]
  have e0 : (ck == 0) = false := beq_false_of_ne h0
  have e3 : (ck == 3) = false := beq_false_of_ne h3
  have e4 : (ck == 4) = false := beq_false_of_ne h4
  clear h0 h3 h4
  go_enter Tryz.func61, Tryz.ntmps61
  go_wp2_with fail
  refine (TB.out _).mono ?_
  rintro e w1 ⟨rfl, b1⟩
  have K1 := (Blk.made b1).eleven
  have d1 := below_step (alloc_one _ _) b1 (Nat.le_refl _)
  go_wp2_with fail
  refine (C.out _ d1).mono ?_
  rintro e w2 ⟨rfl, b2⟩
  go_wp2_with fail
  go_ret
  exact ⟨rfl, below_step d1 b2 (Nat.le_refl _)⟩
set_option maxRecDepth 100000 in
set_option maxHeartbeats 4000000 in
theorem RValue_any (e : Ent.En) (A : Option Addr) (n c : Nat) {A' : Option Addr} {n' c' B : Nat} {l : List UInt8} (w : World) (hb : RB w B A' n' c' l) (hB : B ≤ w.heap.size) : Calls Tryz.prog 50 #[enV e A n c, .slice A' n' c'] w fun x w' => x = .returned (.int .u32 (Ent.valS e l)) ∧ Below w.heap.size w w' := by
  obtain ⟨ix, sb, nm, ty, ac, mp, st, mx, lo, hi, df⟩ := e
  unfold enV
  dsimp only
  have K0 := fun w => RKnown_any ty w
  unfold knownB at K0
  by_cases hn : (Ty.kd ty).name = []
  · have hval : Ent.valS ⟨ix, sb, nm, ty, ac, mp, st, mx, lo, hi, df⟩ l = 100925511 := Ent.val_known hn
    rw [hval]
    rw [hn] at K0
    replace K0 := Lib.hid K0
    clear hval hn hb
    go_enter Tryz.func50, Tryz.ntmps50
    go_wp2_with fail
    refine (K0.out _).mono ?_
    rintro e _ ⟨rfl, rfl⟩
    go_wp2_with fail
    go_ret
    exact ⟨rfl, alloc_one _ _⟩
  have hk : (!(Ty.kd ty).name.isEmpty) = true := by
    cases h : (Ty.kd ty).name with
    | nil => exact absurd h hn
    | cons a b => rfl
  rw [hk] at K0
  have TB := fun w => RTBits_any ty w
  have D := RDecode_any ty (w.alloc (.cells #[.int .i64 ix, .int .i64 sb, .string (T nm), .int .i64 ty, .int .i64 ac, .bool mp, .bool st, .int .i64 mx, .int .i64 lo, .int .i64 hi, .slice A n c] 63)) (hb.alloc hB _)
  have C := RCheckT_any ty mx (w.alloc (.cells #[.int .i64 ix, .int .i64 sb, .string (T nm), .int .i64 ty, .int .i64 ac, .bool mp, .bool st, .int .i64 mx, .int .i64 lo, .int .i64 hi, .slice A n c] 63)) (hb.alloc hB _)
  have hval : Ent.valS ⟨ix, sb, nm, ty, ac, mp, st, mx, lo, hi, df⟩ l = if 0 < (Ty.kd ty).bits then Ent.numS ⟨ix, sb, nm, ty, ac, mp, st, mx, lo, hi, df⟩ l else if Ty.checkS ty mx l = 0 then 0 else if Ty.checkS ty mx l = 3 then 101122066 else if Ty.checkS ty mx l = 4 then 101253168 else 100925511 := rfl
  have hv : Ent.numS ⟨ix, sb, nm, ty, ac, mp, st, mx, lo, hi, df⟩ l = if (Ty.decS ty l).2 = 2 then 101122067 else if (Ty.decS ty l).2 = 3 then 101122066 else if (Ty.decS ty l).2 ≠ 0 then 101253168 else if (Ty.decS ty l).1 < lo then 101253170 else if hi < (Ty.decS ty l).1 then 101253169 else 0 := rfl
  have hck : ¬ 0 < (Ty.kd ty).bits → Ty.checkS ty mx l = 0 ∨ Ty.checkS ty mx l = 3 ∨ Ty.checkS ty mx l = 4 := fun h => by
    rcases Ent.check_bits (most := mx) (b := l) h with h1 | h1
    · exact absurd h1.2 hn
    · exact h1.2
  rw [hval, hv]
  generalize (Ty.decS ty l).1 = z at *
  generalize (Ty.decS ty l).2 = f at *
  generalize Ty.checkS ty mx l = ck at *
  generalize (Ty.kd ty).bits = bt at *
  replace K0 := Lib.hid K0; replace TB := Lib.hid TB; replace D := Lib.hid D; replace C := Lib.hid C
  clear hval hv hb hn hk
  by_cases hbt : 0 < bt
  · rw [if_pos hbt]
    clear hck
    by_cases h2 : f = 2
    · subst h2
      rw [if_pos rfl]
      go_enter Tryz.func50, Tryz.ntmps50
      go_wp2_with fail
      refine (K0.out _).mono ?_
      rintro e _ ⟨rfl, rfl⟩
      go_wp2_with fail
      refine (TB.out _).mono ?_
      rintro e _ ⟨rfl, rfl⟩
      go_wp2_with fail
      refine (D.out).mono ?_
      rintro e _ ⟨rfl, rfl⟩
      go_wp2_with fail
      go_ret
      exact ⟨rfl, alloc_one _ _⟩
    rw [if_neg h2]
    have e2 : (f == 2) = false := beq_false_of_ne h2
    by_cases h3 : f = 3
    · subst h3
      rw [if_pos rfl]
      go_enter Tryz.func50, Tryz.ntmps50
      go_wp2_with fail
      refine (K0.out _).mono ?_
      rintro e _ ⟨rfl, rfl⟩
      go_wp2_with fail
      refine (TB.out _).mono ?_
      rintro e _ ⟨rfl, rfl⟩
      go_wp2_with fail
      refine (D.out).mono ?_
      rintro e _ ⟨rfl, rfl⟩
      go_wp2_with fail
      go_ret
      exact ⟨rfl, alloc_one _ _⟩
    rw [if_neg h3]
    have e3 : (f == 3) = false := beq_false_of_ne h3
    by_cases h0 : f = 0
    · subst h0
      rw [if_neg (by decide)]
      by_cases h4 : z < lo
      · rw [if_pos h4]
        go_enter Tryz.func50, Tryz.ntmps50
        go_wp2_with fail
        refine (K0.out _).mono ?_
        rintro e _ ⟨rfl, rfl⟩
        go_wp2_with fail
        refine (TB.out _).mono ?_
        rintro e _ ⟨rfl, rfl⟩
        go_wp2_with fail
        refine (D.out).mono ?_
        rintro e _ ⟨rfl, rfl⟩
        go_wp2_with fail
        go_ret
        exact ⟨rfl, alloc_one _ _⟩
      rw [if_neg h4]
      by_cases h5 : hi < z
      · rw [if_pos h5]
        go_enter Tryz.func50, Tryz.ntmps50
        go_wp2_with fail
        refine (K0.out _).mono ?_
        rintro e _ ⟨rfl, rfl⟩
        go_wp2_with fail
        refine (TB.out _).mono ?_
        rintro e _ ⟨rfl, rfl⟩
        go_wp2_with fail
        refine (D.out).mono ?_
        rintro e _ ⟨rfl, rfl⟩
        go_wp2_with fail
        go_ret
        exact ⟨rfl, alloc_one _ _⟩
      rw [if_neg h5]
      go_enter Tryz.func50, Tryz.ntmps50
      go_wp2_with fail
      refine (K0.out _).mono ?_
      rintro e _ ⟨rfl, rfl⟩
      go_wp2_with fail
      refine (TB.out _).mono ?_
      rintro e _ ⟨rfl, rfl⟩
      go_wp2_with fail
      refine (D.out).mono ?_
      rintro e _ ⟨rfl, rfl⟩
      go_wp2_with fail
      go_ret
      exact ⟨rfl, alloc_one _ _⟩
    rw [if_pos h0]
    have e0 : (f != 0) = true := by simpa using h0
    have e0' : (f == 0) = false := beq_false_of_ne h0
    clear h2 h3 h0
    go_enter Tryz.func50, Tryz.ntmps50
    go_wp2_with fail
    refine (K0.out _).mono ?_
    rintro e _ ⟨rfl, rfl⟩
    go_wp2_with fail
    refine (TB.out _).mono ?_
    rintro e _ ⟨rfl, rfl⟩
    go_wp2_with fail
    refine (D.out).mono ?_
    rintro e _ ⟨rfl, rfl⟩
    go_wp2_with fail
    go_ret
    exact ⟨rfl, alloc_one _ _⟩
  rw [if_neg hbt]
  have hck2 := hck hbt
  have ebt : bt = 0 := by omega
  subst ebt
  clear hbt hck
  rcases hck2 with rfl | rfl | rfl
  all_goals
    simp only [Int.reduceEq, if_true, if_false]
    go_enter Tryz.func50, Tryz.ntmps50
    go_wp2_with fail
    refine (K0.out _).mono ?_
    rintro e _ ⟨rfl, rfl⟩
    go_wp2_with fail
    refine (TB.out _).mono ?_
    rintro e _ ⟨rfl, rfl⟩
    go_wp2_with fail
    refine (C.out).mono ?_
    rintro e _ ⟨rfl, rfl⟩
    go_wp2_with fail
    go_ret
    exact ⟨rfl, alloc_one _ _⟩
end Go.Proofs.YtbmocffnnlfnjaaGreat
/-
  Walks: what is read of a dictionary, of layer 15.
  Conditions: none.
-/
namespace Go.Proofs.YtbmocffnnlfnjaaGreat
set_option linter.unusedVariables false
set_option linter.unusedSimpArgs false
open Go.RowKit
set_option maxRecDepth 100000 in
set_option maxHeartbeats 4000000 in
theorem dthere_any {F : Nat → Prop} {w : World} {g gv lc vc : Nat} {la : Addr} {vA : Option Addr} {xs vs : List Value} {D : Dc.Dic} (h : DRt 66 w F g gv (some la) lc vA vc xs vs D) : Calls Tryz.prog 115 #[.pointer (some ⟨g, 0, none⟩)] w fun e w' => e = .returned (.bool true) ∧ w = w' := by
  obtain ⟨t0, t1⟩ := h.two
  go_enter Tryz.func115, Tryz.ntmps115
  go_wp2_with fail
  go_ret
  exact ⟨rfl, rfl⟩
set_option maxRecDepth 100000 in
set_option maxHeartbeats 4000000 in
theorem dLen_any {F : Nat → Prop} {w : World} {g gv lc vc : Nat} {la : Addr} {vA : Option Addr} {xs vs : List Value} {D : Dc.Dic} (h : DRt 66 w F g gv (some la) lc vA vc xs vs D) : Calls Tryz.prog 122 #[.pointer (some ⟨g, 0, none⟩)] w fun e w' => e = .returned (.int .i64 (D.l.length : Int)) ∧ w = w' := by
  obtain ⟨t0, t1⟩ := h.two
  have T := Lib.hid (dthere_any h)
  go_enter Tryz.func122, Tryz.ntmps122
  go_wp2_with fail
  refine (T.out).mono ?_
  rintro e w ⟨rfl, rfl⟩
  go_wp2_with fail
  go_ret
  exact ⟨rfl, rfl⟩
set_option maxRecDepth 100000 in
set_option maxHeartbeats 4000000 in
theorem dat_any {F : Nat → Prop} {w : World} {g gv lc vc : Nat} {la : Addr} {vA : Option Addr} {xs vs : List Value} {D : Dc.Dic} (k : Nat) (x y : Int) (h : DRt 66 w F g gv (some la) lc vA vc xs vs D) : Calls Tryz.prog 117 #[.pointer (some ⟨g, 0, none⟩), .int .i64 (k : Int), .int .i64 x, .int .i64 y] w fun e w' => e = .returned (.bool (Dc.atB D.l k x y)) ∧ w = w' := by
  have LN := Lib.hid (dLen_any h)
  obtain ⟨t0, t1⟩ := h.two
  have hcap := h.lcap
  by_cases hk : k < D.l.length
  · obtain ⟨b, o, A, n, c, hA, hbB, hr, hc⟩ := h.entry hk
    have hv : Dc.atB D.l k x y = ((D.l.getD k Dc.en0).index == x && (D.l.getD k Dc.en0).sub == y) := by
      unfold Dc.atB Dc.hit
      rw [decide_eq_true hk, Bool.true_and, Bool.eq_iff_iff]
      simp
    have c0 := hc 0 _ rfl
    have c1 := hc 1 _ rfl
    rw [hv]
    generalize (D.l.getD k Dc.en0).index = ix at *
    generalize (D.l.getD k Dc.en0).sub = sb at *
    injection hA with hA
    subst hA
    simp only [Nat.add_zero] at c0
    have HC := Lib.hid hcap
    clear hc hr hv h
    generalize D.l.length = m at *
    generalize hx1 : (ix == x) = b1 at *
    generalize hx2 : (sb == y) = b2 at *
    cases b1 <;> cases b2
    all_goals
      go_enter Tryz.func117, Tryz.ntmps117
      go_wp2_with fail
      refine (LN.out).mono ?_
      rintro e w ⟨rfl, rfl⟩
      go_wp2_with fail
      go_ret
      exact ⟨rfl, rfl⟩
  · have hv : Dc.atB D.l k x y = false := by unfold Dc.atB; rw [decide_eq_false hk]; rfl
    rw [hv]
    clear hv h
    generalize D.l.length = m at *
    go_enter Tryz.func117, Tryz.ntmps117
    go_wp2_with fail
    refine (LN.out).mono ?_
    rintro e w ⟨rfl, rfl⟩
    go_wp2_with fail
    go_ret
    exact ⟨rfl, rfl⟩
def nearB (l : List Ent.En) (z x : Int) : Bool := decide (0 ≤ z ∧ z < (l.length : Int)) && ((l.getD z.toNat Dc.en0).index == x)
set_option maxRecDepth 100000 in
set_option maxHeartbeats 4000000 in
theorem din_any {F : Nat → Prop} {w : World} {g gv lc vc : Nat} {la : Addr} {vA : Option Addr} {xs vs : List Value} {D : Dc.Dic} (z x y : Int) (h : DRt 66 w F g gv (some la) lc vA vc xs vs D) : Calls Tryz.prog 118 #[.pointer (some ⟨g, 0, none⟩), .int .i64 z, .int .i64 x, .int .i64 y] w fun e w' => e = .returned (.bool (nearB D.l z x)) ∧ w = w' := by
  have LN := Lib.hid (dLen_any h)
  obtain ⟨t0, t1⟩ := h.two
  have hcap := h.lcap
  by_cases h0 : z < 0
  · have hv : nearB D.l z x = false := by unfold nearB; rw [decide_eq_false (by omega)]; rfl
    rw [hv]
    clear hv h
    generalize D.l.length = m at *
    go_enter Tryz.func118, Tryz.ntmps118
    go_wp2_with fail
    go_ret
    exact ⟨rfl, rfl⟩
  obtain ⟨k, rfl⟩ : ∃ k : Nat, z = (k : Int) := ⟨z.toNat, by omega⟩
  by_cases hk : k < D.l.length
  · obtain ⟨b, o, A, n, c, hA, hbB, hr, hc⟩ := h.entry hk
    have hv : nearB D.l (k : Int) x = ((D.l.getD k Dc.en0).index == x) := by
      unfold nearB
      rw [decide_eq_true (by omega), Int.toNat_natCast]
      rfl
    have c0 := hc 0 _ rfl
    rw [hv]
    generalize (D.l.getD k Dc.en0).index = ix at *
    injection hA with hA
    subst hA
    simp only [Nat.add_zero] at c0
    have HC := Lib.hid hcap
    clear hc hr hv h
    generalize D.l.length = m at *
    generalize hx1 : (ix == x) = b1 at *
    cases b1
    all_goals
      go_enter Tryz.func118, Tryz.ntmps118
      go_wp2_with fail
      refine (LN.out).mono ?_
      rintro e w ⟨rfl, rfl⟩
      go_wp2_with fail
      go_ret
      exact ⟨rfl, rfl⟩
  · have hv : nearB D.l (k : Int) x = false := by unfold nearB; rw [decide_eq_false (by omega)]; rfl
    rw [hv]
    clear hv h
    generalize D.l.length = m at *
    go_enter Tryz.func118, Tryz.ntmps118
    go_wp2_with fail
    refine (LN.out).mono ?_
    rintro e w ⟨rfl, rfl⟩
    go_wp2_with fail
    go_ret
    exact ⟨rfl, rfl⟩
end Go.Proofs.YtbmocffnnlfnjaaGreat
/-
  Walks: search in a dictionary, of layer 15.
  Conditions: none.
-/
namespace Go.Proofs.YtbmocffnnlfnjaaGreat
set_option linter.unusedVariables false
set_option linter.unusedSimpArgs false
open Go.RowKit
theorem ahead_mono {l : List Ent.En} (ho : Dc.Ord l) {x y : Int} {i j : Nat} (hij : i ≤ j) (hj : j < l.length) (h : Dc.ahead x y (l.getD j Dc.en0) = true) : Dc.ahead x y (l.getD i Dc.en0) = true := by
  rcases Nat.eq_or_lt_of_le hij with h1 | h1
  · subst h1; exact h
  · exact Dc.ahead_iff.2 ((Dc.ord_lt2 ho h1 hj).trans (Dc.ahead_iff.1 h))
theorem ahead_mono_no {l : List Ent.En} (ho : Dc.Ord l) {x y : Int} {i j : Nat} (hij : i ≤ j) (hj : j < l.length) (h : Dc.ahead x y (l.getD i Dc.en0) = false) : Dc.ahead x y (l.getD j Dc.en0) = false := by
  cases ha : Dc.ahead x y (l.getD j Dc.en0) with
  | false => rfl
  | true => rw [ahead_mono ho hij hj ha] at h; cases h
def plc (x y : Int) : Ent.En := ⟨x, y, [], 0, 0, false, false, 0, 0, 0, []⟩
def SeekR (l : List Ent.En) (x y : Int) (lo hi : Nat) : Prop := lo ≤ hi ∧ hi ≤ l.length ∧ (∀ j, j < lo → Dc.ahead x y (l.getD j Dc.en0) = true) ∧ ∀ j, hi ≤ j → j < l.length → Dc.ahead x y (l.getD j Dc.en0) = false
set_option maxRecDepth 100000 in
set_option maxHeartbeats 4000000 in
theorem dseek_any {F : Nat → Prop} {w : World} {g gv lc vc : Nat} {la : Addr} {vA : Option Addr} {xs vs : List Value} {D : Dc.Dic} (x y : Int) (h : DRt 66 w F g gv (some la) lc vA vc xs vs D) : Calls Tryz.prog 116 #[.pointer (some ⟨g, 0, none⟩), .int .i64 x, .int .i64 y] w fun e w' => e = .returned (.int .i64 (Dc.seekS D.l x y : Int)) ∧ Below w.heap.size w w' := by
  have LN := Lib.hid (dLen_any (h.below (alloc_one w (.cells #[.int .i64 x, .int .i64 y, .string ⟨#[]⟩, .int .i64 0, .int .i64 0, .bool false, .bool false, .int .i64 0, .int .i64 0, .int .i64 0, .slice none 0 0] 63))))
  have hcap := h.lcap
  have hfew := h.few
  have HORD := Lib.hid h.ord
  have HS : Hid (SeekR D.l x y 0 D.l.length) := Lib.hid ⟨by omega, by omega, fun j hj => absurd hj (by omega), fun j h1 h2 => absurd h2 (by omega)⟩
  have HRES : ∀ k, k ≤ D.l.length → SeekR D.l x y k k → k = Dc.seekS D.l x y := fun k hk hs => Dc.seek_of h.ord hk hs.2.2.1 hs.2.2.2
  have HR2 := Lib.hid HRES
  clear HRES
  go_enter Tryz.func116, Tryz.ntmps116
  go_wp2_with fail
  refine (LN.out).mono ?_
  rintro e w1 ⟨rfl, rfl⟩
  have b0 := alloc_one w (.cells #[.int .i64 x, .int .i64 y, .string ⟨#[]⟩, .int .i64 0, .int .i64 0, .bool false, .bool false, .int .i64 0, .int .i64 0, .int .i64 0, .slice none 0 0] 63)
  have K0 := Blk.new w 63 #[.int .i64 x, .int .i64 y, .string ⟨#[]⟩, .int .i64 0, .int .i64 0, .bool false, .bool false, .int .i64 0, .int .i64 0, .int .i64 0, .slice none 0 0]
  clear LN
  go_wp2_with fail
  go_loopw [8, 9] (fun u v wr => ∃ lo hi : Nat, u = .int .i64 lo ∧ v = .int .i64 hi ∧ Hid (SeekR D.l x y lo hi) ∧ lo ≤ hi ∧ hi ≤ D.l.length ∧ Blk wr w.heap.size 63 #[.int .i64 x, .int .i64 y, .string ⟨#[]⟩, .int .i64 0, .int .i64 0, .bool false, .bool false, .int .i64 0, .int .i64 0, .int .i64 0, .slice none 0 0] ∧ Below w.heap.size w wr) (fun u v _ => (intOf v).toNat - (intOf u).toNat)
  case atStart => exact ⟨0, D.l.length, rfl, rfl, HS, by omega, by omega, K0, b0⟩
  case round =>
    obtain ⟨lo, hi, rfl, rfl, hs, hlh, hhl, K, bb⟩ := hrel
    by_cases hlt : lo < hi
    · obtain ⟨m, hm⟩ : ∃ m : Nat, ((lo : Int) + (hi : Int)) / 2 = (m : Int) := ⟨(lo + hi) / 2, by omega⟩
      have hm1 : lo ≤ m := by omega
      have hm2 : m < hi := by omega
      have h2 := h.below bb
      obtain ⟨b, o, A, n, c, hA, hbB, hr, hc⟩ := h2.entry (i := m) (by omega)
      obtain ⟨t0, t1⟩ := h2.two
      injection hA with hA
      subst hA
      replace t0 := cell_regrown t0
      have E := K.eleven
      have B := fun w => Before_any (D.l.getD m Dc.en0) (plc x y) A none n c 0 0 w
      rw [show Ent.befB (D.l.getD m Dc.en0) (plc x y) = Dc.ahead x y (D.l.getD m Dc.en0) from rfl] at B
      unfold enV plc at B
      dsimp only [show T [] = (⟨#[]⟩ : ByteArray) from rfl] at B
      have c0 := cell_regrown (hc 0 _ rfl)
      have c1 := cell_regrown (hc 1 _ rfl)
      have c2 := cell_regrown (hc 2 _ rfl)
      have c3 := cell_regrown (hc 3 _ rfl)
      have c4 := cell_regrown (hc 4 _ rfl)
      have c5 := cell_regrown (hc 5 _ rfl)
      have c6 := cell_regrown (hc 6 _ rfl)
      have c7 := cell_regrown (hc 7 _ rfl)
      have c8 := cell_regrown (hc 8 _ rfl)
      have c9 := cell_regrown (hc 9 _ rfl)
      have c10 := cell_regrown (hc 10 _ rfl)
      simp only [Nat.add_zero] at c0
      have hst := hs.out
      have H1 : Dc.ahead x y (D.l.getD m Dc.en0) = true → SeekR D.l x y (m + 1) hi := fun ha => ⟨by omega, hhl, fun j hj => ahead_mono HORD.out (show j ≤ m by omega) (by omega) ha, hst.2.2.2⟩
      have H2 : Dc.ahead x y (D.l.getD m Dc.en0) = false → SeekR D.l x y lo m := fun ha => ⟨hm1, by omega, hst.2.2.1, fun j h1 h2 => ahead_mono_no HORD.out h1 h2 ha⟩
      have d0 := cell_regrown E.1.1
      have d1 := cell_regrown E.1.2.1
      have d2 := cell_regrown E.1.2.2.1
      have d3 := cell_regrown E.1.2.2.2.1
      have d4 := cell_regrown E.1.2.2.2.2.1
      have d5 := cell_regrown E.1.2.2.2.2.2.1
      have d6 := cell_regrown E.1.2.2.2.2.2.2.1
      have d7 := cell_regrown E.1.2.2.2.2.2.2.2.1
      have d8 := cell_regrown E.1.2.2.2.2.2.2.2.2.1
      have d9 := cell_regrown E.1.2.2.2.2.2.2.2.2.2.1
      have d10 := cell_regrown E.1.2.2.2.2.2.2.2.2.2.2
      have i0 : (0 : Int) ≤ (m : Int) := by omega
      have i1 : (m : Int) < (D.l.length : Int) := by omega
      clear hs hst hc hr E
      cases ha : Dc.ahead x y (D.l.getD m Dc.en0) with
      | true =>
        rw [ha] at B
        have HQ := Lib.hid (H1 ha)
        replace B := Lib.hid B
        clear H1 H2 ha
        generalize D.l.getD m Dc.en0 = e0 at *
        go_wp2_with fail
        refine region_later (by kernel_rfl) ?_
        refine phase_later (by kernel_rfl) 1 (below_drew _) [0, 4, 7, 1, 2, 3, 5, 6] rfl (by kernel_rfl) ?_
        simp only [picks, nth]
        repeat (go_big_quiet_step (fail))
        refine wpQuiet_nil ?_
        refine phase_op 8 0 rfl (by kernel_rfl) (by decide) ?_
        simp only [nth]
        go_wp2_with (go_at_call 31; refine (B.out _).mono ?_; rintro e w5 ⟨rfl, b5⟩)
        have b6 : Below wr.heap.size wr w5 := (below_drew wr).trans b5
        refine behind_later b6 ?_
        refine phase_end (by kernel_rfl) ?_
        have K6 := K.later b6
        have bb6 := below_step bb b6 (Nat.le_refl _)
        go_wp2_with fail
        go_roundw
        case rel => exact ⟨m + 1, hi, by go_num, by go_num, HQ, by omega, by omega, K6, bb6⟩
        case measure => simp [intOf] <;> omega
      | false =>
        rw [ha] at B
        have HQ := Lib.hid (H2 ha)
        replace B := Lib.hid B
        clear H1 H2 ha
        generalize D.l.getD m Dc.en0 = e0 at *
        go_wp2_with fail
        refine region_later (by kernel_rfl) ?_
        refine phase_later (by kernel_rfl) 1 (below_drew _) [0, 4, 7, 1, 2, 3, 5, 6] rfl (by kernel_rfl) ?_
        simp only [picks, nth]
        repeat (go_big_quiet_step (fail))
        refine wpQuiet_nil ?_
        refine phase_op 8 0 rfl (by kernel_rfl) (by decide) ?_
        simp only [nth]
        go_wp2_with (go_at_call 31; refine (B.out _).mono ?_; rintro e w5 ⟨rfl, b5⟩)
        have b6 : Below wr.heap.size wr w5 := (below_drew wr).trans b5
        refine behind_later b6 ?_
        refine phase_end (by kernel_rfl) ?_
        have K6 := K.later b6
        have bb6 := below_step bb b6 (Nat.le_refl _)
        go_wp2_with fail
        go_roundw
        case rel => exact ⟨lo, m, by go_num, by go_num, HQ, by omega, by omega, K6, bb6⟩
        case measure => simp [intOf] <;> omega
    · obtain rfl : lo = hi := by omega
      have HQ : Hid (lo = Dc.seekS D.l x y) := Lib.hid (HR2.out lo hhl hs.out)
      clear hs
      go_wp2_with fail
      go_ret
      exact ⟨ret_int (by rw [← HQ.out]), bb⟩
end Go.Proofs.YtbmocffnnlfnjaaGreat
/-
  Walks: Find, locate, own, held of layer 15.
  Conditions: none.
-/
namespace Go.Proofs.YtbmocffnnlfnjaaGreat
set_option linter.unusedVariables false
set_option linter.unusedSimpArgs false
open Go.RowKit
def findP (l : List Ent.En) (x y : Int) : Int × Bool := match Dc.findS l x y with | some k => ((k : Int), true) | none => (0, false)
theorem near_in {l : List Ent.En} (ho : Dc.Ord l) (x y : Int) : Dc.inB l x = (nearB l (Dc.seekS l x y : Int) x || nearB l ((Dc.seekS l x y : Int) - 1) x) := by
  have hle := Dc.seek_le l x y
  rw [Dc.in_near ho x y]
  unfold nearB
  rw [Int.toNat_natCast]
  have e1 : decide (0 ≤ (Dc.seekS l x y : Int) ∧ (Dc.seekS l x y : Int) < (l.length : Int)) = decide (Dc.seekS l x y < l.length) := by rw [decide_eq_decide]; omega
  have e2 : decide (0 ≤ (Dc.seekS l x y : Int) - 1 ∧ (Dc.seekS l x y : Int) - 1 < (l.length : Int)) = decide (1 ≤ Dc.seekS l x y) := by rw [decide_eq_decide]; omega
  have e3 : ((Dc.seekS l x y : Int) - 1).toNat = Dc.seekS l x y - 1 := by omega
  rw [e1, e2, e3]
theorem find_at {l : List Ent.En} {x y : Int} : findP l x y = if Dc.atB l (Dc.seekS l x y) x y = true then ((Dc.seekS l x y : Int), true) else (0, false) := by
  unfold findP Dc.findS
  split <;> rename_i h <;> split at h <;> simp_all
set_option maxRecDepth 100000 in
set_option maxHeartbeats 4000000 in
theorem dFind_any {F : Nat → Prop} {w : World} {g gv lc vc : Nat} {la : Addr} {vA : Option Addr} {xs vs : List Value} {D : Dc.Dic} (x y : Int) (h : DRt 66 w F g gv (some la) lc vA vc xs vs D) : Calls Tryz.prog 103 #[.pointer (some ⟨g, 0, none⟩), .int .i64 x, .int .i64 y] w fun e w' => e = .returned (.tuple #[.int .i64 (findP D.l x y).1, .bool (findP D.l x y).2]) ∧ Below w.heap.size w w' := by
  have S := Lib.hid (dseek_any x y h)
  have AT := fun (w1 : World) (hb : Below w.heap.size w w1) => dat_any (Dc.seekS D.l x y) x y (h.below hb)
  rw [find_at]
  generalize Dc.seekS D.l x y = k at *
  cases ha : Dc.atB D.l k x y with
  | true =>
    rw [ha] at AT
    rw [if_pos rfl]
    replace AT := Lib.hid AT
    clear ha h
    go_enter Tryz.func103, Tryz.ntmps103
    go_wp2_with fail
    refine (S.out).mono ?_
    rintro e w1 ⟨rfl, b1⟩
    go_wp2_with fail
    refine (AT.out _ b1).mono ?_
    rintro e w2 ⟨rfl, rfl⟩
    go_wp2_with fail
    go_ret2
    exact ⟨rfl, b1⟩
  | false =>
    rw [ha] at AT
    rw [if_neg (by decide)]
    replace AT := Lib.hid AT
    clear ha h
    go_enter Tryz.func103, Tryz.ntmps103
    go_wp2_with fail
    refine (S.out).mono ?_
    rintro e w1 ⟨rfl, b1⟩
    go_wp2_with fail
    refine (AT.out _ b1).mono ?_
    rintro e w2 ⟨rfl, rfl⟩
    go_wp2_with fail
    go_ret2
    exact ⟨rfl, b1⟩
/-- The number of an entry, or why there is none. -/
def locP (l : List Ent.En) (x y : Int) : Int × Int := match Dc.findS l x y with | some k => ((k : Int), 0) | none => (0, if Dc.inB l x = true then 101253137 else 100794368)
theorem loc_at {l : List Ent.En} (ho : Dc.Ord l) {x y : Int} : locP l x y = if Dc.atB l (Dc.seekS l x y) x y = true then ((Dc.seekS l x y : Int), 0) else if nearB l (Dc.seekS l x y : Int) x = true then (0, 101253137) else if nearB l ((Dc.seekS l x y : Int) - 1) x = true then (0, 101253137) else (0, 100794368) := by
  have hn := near_in ho x y
  unfold locP
  cases h : Dc.findS l x y with
  | some k =>
    unfold Dc.findS at h
    split at h
    · rename_i ha; rw [if_pos ha]; cases h; rfl
    · cases h
  | none =>
    unfold Dc.findS at h
    split at h
    · cases h
    · rename_i ha
      rw [if_neg ha]
      dsimp only
      rw [hn]
      cases nearB l (Dc.seekS l x y : Int) x <;> cases nearB l ((Dc.seekS l x y : Int) - 1) x <;> rfl
set_option maxRecDepth 100000 in
set_option maxHeartbeats 4000000 in
theorem dlocate_any {F : Nat → Prop} {w : World} {g gv lc vc : Nat} {la : Addr} {vA : Option Addr} {xs vs : List Value} {D : Dc.Dic} (x y : Int) (h : DRt 66 w F g gv (some la) lc vA vc xs vs D) : Calls Tryz.prog 96 #[.pointer (some ⟨g, 0, none⟩), .int .i64 x, .int .i64 y] w fun e w' => e = .returned (.tuple #[.int .i64 (locP D.l x y).1, .int .u32 (locP D.l x y).2]) ∧ Below w.heap.size w w' := by
  have S := Lib.hid (dseek_any x y h)
  have TH := Lib.hid (dthere_any h)
  have hfew := h.few
  have hk := Dc.seek_le D.l x y
  have AT := fun (w1 : World) (hb : Below w.heap.size w w1) => dat_any (Dc.seekS D.l x y) x y (h.below hb)
  have I1 := fun (w1 : World) (hb : Below w.heap.size w w1) => din_any (Dc.seekS D.l x y : Int) x y (h.below hb)
  have I2 := fun (w1 : World) (hb : Below w.heap.size w w1) => din_any ((Dc.seekS D.l x y : Int) - 1) x y (h.below hb)
  rw [loc_at h.ord]
  generalize Dc.seekS D.l x y = k at *
  generalize Dc.atB D.l k x y = a1 at *
  generalize nearB D.l (k : Int) x = a2 at *
  generalize nearB D.l ((k : Int) - 1) x = a3 at *
  cases a1 with
  | true =>
    rw [if_pos rfl]
    clear h
    replace AT := Lib.hid AT; replace I1 := Lib.hid I1; replace I2 := Lib.hid I2
    go_enter Tryz.func96, Tryz.ntmps96
    go_wp2_with fail
    refine (TH.out).mono ?_
    rintro e w ⟨rfl, rfl⟩
    go_wp2_with fail
    refine (S.out).mono ?_
    rintro e w1 ⟨rfl, b1⟩
    go_wp2_with fail
    refine (AT.out _ b1).mono ?_
    rintro e w2 ⟨rfl, rfl⟩
    go_wp2_with fail
    go_ret2
    exact ⟨rfl, b1⟩
  | false =>
  rw [if_neg (by decide)]
  cases a2 with
  | true =>
    rw [if_pos rfl]
    clear h
    replace AT := Lib.hid AT; replace I1 := Lib.hid I1; replace I2 := Lib.hid I2
    go_enter Tryz.func96, Tryz.ntmps96
    go_wp2_with fail
    refine (TH.out).mono ?_
    rintro e w ⟨rfl, rfl⟩
    go_wp2_with fail
    refine (S.out).mono ?_
    rintro e w1 ⟨rfl, b1⟩
    go_wp2_with fail
    refine (AT.out _ b1).mono ?_
    rintro e w2 ⟨rfl, rfl⟩
    go_wp2_with fail
    refine (I1.out _ b1).mono ?_
    rintro e w2 ⟨rfl, rfl⟩
    go_wp2_with fail
    go_ret2
    exact ⟨rfl, b1⟩
  | false =>
  rw [if_neg (by decide)]
  cases a3 with
  | true =>
    rw [if_pos rfl]
    clear h
    replace AT := Lib.hid AT; replace I1 := Lib.hid I1; replace I2 := Lib.hid I2
    go_enter Tryz.func96, Tryz.ntmps96
    go_wp2_with fail
    refine (TH.out).mono ?_
    rintro e w ⟨rfl, rfl⟩
    go_wp2_with fail
    refine (S.out).mono ?_
    rintro e w1 ⟨rfl, b1⟩
    go_wp2_with fail
    refine (AT.out _ b1).mono ?_
    rintro e w2 ⟨rfl, rfl⟩
    go_wp2_with fail
    refine (I1.out _ b1).mono ?_
    rintro e w2 ⟨rfl, rfl⟩
    go_wp2_with fail
    refine (I2.out _ b1).mono ?_
    rintro e w2 ⟨rfl, rfl⟩
    go_wp2_with fail
    go_ret2
    exact ⟨rfl, b1⟩
  | false =>
    rw [if_neg (by decide)]
    clear h
    replace AT := Lib.hid AT; replace I1 := Lib.hid I1; replace I2 := Lib.hid I2
    go_enter Tryz.func96, Tryz.ntmps96
    go_wp2_with fail
    refine (TH.out).mono ?_
    rintro e w ⟨rfl, rfl⟩
    go_wp2_with fail
    refine (S.out).mono ?_
    rintro e w1 ⟨rfl, b1⟩
    go_wp2_with fail
    refine (AT.out _ b1).mono ?_
    rintro e w2 ⟨rfl, rfl⟩
    go_wp2_with fail
    refine (I1.out _ b1).mono ?_
    rintro e w2 ⟨rfl, rfl⟩
    go_wp2_with fail
    refine (I2.out _ b1).mono ?_
    rintro e w2 ⟨rfl, rfl⟩
    go_wp2_with fail
    go_ret2
    exact ⟨rfl, b1⟩
end Go.Proofs.YtbmocffnnlfnjaaGreat
/-
  Walks: own, held of layer 15, Lent of layer 14's reference.
  Conditions: none.
-/
namespace Go.Proofs.YtbmocffnnlfnjaaGreat
set_option linter.unusedVariables false
set_option linter.unusedSimpArgs false
open Go.RowKit
set_option maxRecDepth 100000 in
set_option maxHeartbeats 4000000 in
theorem down_any {A : Option Addr} {n c B : Nat} {l : List UInt8} (w : World) (h : RB w B A n c l) (hn : n < 140737488355328) (hB : B ≤ w.heap.size) :
    Calls Tryz.prog 33 #[.slice A n c] w fun e w' => ∃ A1 c1, e = .returned (.slice A1 n c1) ∧ OB w' w.heap.size A1 n c1 l ∧ Below w.heap.size w w' := by
  go_enter Tryz.func33, Tryz.ntmps33
  go_wp2_with (at_builtin; refine wpList_appb_nil etb rfl (.const (.slice none 0 0)) (.tmp 3) rfl rfl rfl w.heap.size h (by omega) (Nat.le_refl _) ?_; intro A1 c1 w1 h1 hb1)
  go_ret
  exact ⟨_, _, rfl, h1, hb1⟩
set_option maxRecDepth 100000 in
set_option maxHeartbeats 4000000 in
theorem held_any (e : Ent.En) {A : Option Addr} {n c B : Nat} (w : World) (hb : RB w B A n c e.dflt) (hn : n < 140737488355328) (hB : B ≤ w.heap.size) :
    Calls Tryz.prog 32 #[enV e A n c] w fun x w' => ∃ A1 c1, x = .returned (enV e A1 n c1) ∧ OB w' w.heap.size A1 n c1 e.dflt ∧ Below w.heap.size w w' := by
  have hcells := enL e A n c
  obtain ⟨ix, sb, nm, ty, ac, mp, st, mx, lo, hi, df⟩ := e
  dsimp only at hb
  unfold enV
  dsimp only
  have OWN := down_any ((w.alloc (.cells #[.int .i64 ix, .int .i64 sb, .string (T nm), .int .i64 ty, .int .i64 ac, .bool mp, .bool st, .int .i64 mx, .int .i64 lo, .int .i64 hi, .slice A n c] 63)).alloc (.cells #[.int .i64 0, .int .i64 0, .string ⟨#[]⟩, .int .i64 0, .int .i64 0, .bool false, .bool false, .int .i64 0, .int .i64 0, .int .i64 0, .slice none 0 0] 63)) ((hb.alloc hB _).alloc (by simp; omega) _) hn (by simp; omega)
  replace OWN := Lib.hid OWN
  clear hb
  go_enter Tryz.func32, Tryz.ntmps32
  go_wp2_with fail
  refine (OWN.out).mono ?_
  rintro e w1 ⟨A1, c1, rfl, o1, b1⟩
  have K1 := ((Blk.new w 63 #[.int .i64 ix, .int .i64 sb, .string (T nm), .int .i64 ty, .int .i64 ac, .bool mp, .bool st, .int .i64 mx, .int .i64 lo, .int .i64 hi, .slice A n c]).alloc (.cells #[.int .i64 0, .int .i64 0, .string ⟨#[]⟩, .int .i64 0, .int .i64 0, .bool false, .bool false, .int .i64 0, .int .i64 0, .int .i64 0, .slice none 0 0] 63)).later b1
  have K2 := (Blk.new (w.alloc (.cells #[.int .i64 ix, .int .i64 sb, .string (T nm), .int .i64 ty, .int .i64 ac, .bool mp, .bool st, .int .i64 mx, .int .i64 lo, .int .i64 hi, .slice A n c] 63)) 63 #[.int .i64 0, .int .i64 0, .string ⟨#[]⟩, .int .i64 0, .int .i64 0, .bool false, .bool false, .int .i64 0, .int .i64 0, .int .i64 0, .slice none 0 0]).later b1
  have d1 := below_step (alloc_two w (.cells #[.int .i64 ix, .int .i64 sb, .string (T nm), .int .i64 ty, .int .i64 ac, .bool mp, .bool st, .int .i64 mx, .int .i64 lo, .int .i64 hi, .slice A n c] 63) (.cells #[.int .i64 0, .int .i64 0, .string ⟨#[]⟩, .int .i64 0, .int .i64 0, .bool false, .bool false, .int .i64 0, .int .i64 0, .int .i64 0, .slice none 0 0] 63)) b1 (Nat.le_refl _)
  have E1 := K1.eleven
  have E2 := K2.eleven
  simp only [World.size_alloc] at K2 E2
  simp only [World.size_alloc] at o1
  have hne : w.heap.size + 1 ≠ w.heap.size := by omega
  go_wp2_with fail
  have K3 := (K2.far (p := ⟨w.heap.size, 10, none⟩) hne (.slice A1 n c1)).store11 (.int .i64 ix) (.int .i64 sb) (.string (T nm)) (.int .i64 ty) (.int .i64 ac) (.bool mp) (.bool st) (.int .i64 mx) (.int .i64 lo) (.int .i64 hi) (.slice A1 n c1)
  have R := K3.eleven.1
  have d2 := below_set11 (g := w.heap.size + 1) (d1.setCell (p := ⟨w.heap.size, 10, none⟩) (Nat.le_refl _) (.slice A1 n c1)) (by omega) (.int .i64 ix) (.int .i64 sb) (.string (T nm)) (.int .i64 ty) (.int .i64 ac) (.bool mp) (.bool st) (.int .i64 mx) (.int .i64 lo) (.int .i64 hi) (.slice A1 n c1)
  have o2 := ((o1.far (g := w.heap.size) (by omega) 10 (.slice A1 n c1)).far11 (g := w.heap.size + 1) (by omega) (.int .i64 ix) (.int .i64 sb) (.string (T nm)) (.int .i64 ty) (.int .i64 ac) (.bool mp) (.bool st) (.int .i64 mx) (.int .i64 lo) (.int .i64 hi) (.slice A1 n c1)).more (base' := w.heap.size) (by omega)
  exact bodyPost_ret (v := .agg #[.int .i64 ix, .int .i64 sb, .string (T nm), .int .i64 ty, .int .i64 ac, .bool mp, .bool st, .int .i64 mx, .int .i64 lo, .int .i64 hi, .slice A1 n c1]) (by simp [results, Tryz.results32, go_sem, R]) rfl ⟨A1, c1, rfl, o2, d2⟩
end Go.Proofs.YtbmocffnnlfnjaaGreat
