/-
  Texts joined: EntRule, EntName, TypRef, OctPut, OctGet.
  Conditions: none.
-/
import Derived.Test.YtmolmpgampmolaaGreatJ01
import Derived.Test.YtmolmpgampmolaaGreatJ04
import Derived.Test.YtmolmpgampmolaaGreatJ08
/-
  Walks: the small rules of layer 14.
  Conditions: none.
-/
namespace Go.Proofs.YtmolmpgampmolaaGreat
set_option linter.unusedVariables false
set_option linter.unusedSimpArgs false
open Go.RowKit
set_option maxRecDepth 100000 in
set_option maxHeartbeats 4000000 in
theorem flags_any (e : Ent.En) (A : Option Addr) (n c : Nat) (w : World) : Calls Tryz.prog 71 #[enV e A n c] w fun x w' => x = .returned (.bool (Ent.flagsB e)) ∧ Below w.heap.size w w' := by
  obtain ⟨ix, sb, nm, ty, ac, mp, st, mx, lo, hi, df⟩ := e
  unfold enV
  dsimp only
  by_cases h1 : ac = 1
  · subst h1
    cases mp <;> cases st
    all_goals
      go_enter Tryz.func71, Tryz.ntmps71
      go_wp2_with fail
      go_ret
      exact ⟨rfl, alloc_one _ _⟩
  by_cases h2 : ac = 2
  · subst h2
    cases st
    all_goals
      go_enter Tryz.func71, Tryz.ntmps71
      go_wp2_with fail
      go_ret
      exact ⟨rfl, alloc_one _ _⟩
  by_cases h3 : ac = 3
  · subst h3
    go_enter Tryz.func71, Tryz.ntmps71
    go_wp2_with fail
    go_ret
    exact ⟨rfl, alloc_one _ _⟩
  by_cases h4 : ac = 4
  · subst h4
    go_enter Tryz.func71, Tryz.ntmps71
    go_wp2_with fail
    go_ret
    exact ⟨rfl, alloc_one _ _⟩
  have e1 : (ac == 1) = false := beq_false_of_ne h1
  have e2 : (ac == 2) = false := beq_false_of_ne h2
  have e3 : (ac == 3) = false := beq_false_of_ne h3
  have e4 : (ac == 4) = false := beq_false_of_ne h4
  have hv : Ent.flagsB ⟨ix, sb, nm, ty, ac, mp, st, mx, lo, hi, df⟩ = false := by unfold Ent.flagsB; rw [if_neg h1, if_neg h2]; simp [h3, h4]
  rw [hv]
  clear hv h1 h2 h3 h4
  go_enter Tryz.func71, Tryz.ntmps71
  go_wp2_with fail
  go_ret
  exact ⟨rfl, alloc_one _ _⟩
set_option maxRecDepth 100000 in
set_option maxHeartbeats 4000000 in
theorem numbered_any (e : Ent.En) (A : Option Addr) (n c : Nat) (l h : Int) (w : World) : Calls Tryz.prog 72 #[enV e A n c, .int .i64 l, .int .i64 h] w fun x w' => x = .returned (.bool (Ent.numberedB e l h)) ∧ Below w.heap.size w w' := by
  obtain ⟨ix, sb, nm, ty, ac, mp, st, mx, lo, hi, df⟩ := e
  unfold enV
  dsimp only
  by_cases h1 : mx = 0
  · by_cases h2 : l ≤ lo
    · by_cases h3 : lo ≤ hi
      · by_cases h4 : hi ≤ h
        all_goals
          go_enter Tryz.func72, Tryz.ntmps72
          go_wp2_with fail
          go_ret
          exact ⟨ret_bool (by rw [Bool.eq_iff_iff]; simp [Ent.numberedB] <;> omega), alloc_one _ _⟩
      · go_enter Tryz.func72, Tryz.ntmps72
        go_wp2_with fail
        go_ret
        exact ⟨ret_bool (by rw [Bool.eq_iff_iff]; simp [Ent.numberedB] <;> omega), alloc_one _ _⟩
    · go_enter Tryz.func72, Tryz.ntmps72
      go_wp2_with fail
      go_ret
      exact ⟨ret_bool (by rw [Bool.eq_iff_iff]; simp [Ent.numberedB] <;> omega), alloc_one _ _⟩
  · have e1 : (mx == 0) = false := beq_false_of_ne h1
    go_enter Tryz.func72, Tryz.ntmps72
    go_wp2_with fail
    go_ret
    exact ⟨ret_bool (by rw [Bool.eq_iff_iff]; simp [Ent.numberedB] <;> omega), alloc_one _ _⟩
set_option maxRecDepth 100000 in
set_option maxHeartbeats 4000000 in
theorem sized_any (e : Ent.En) (A : Option Addr) (n c : Nat) (w : World) : Calls Tryz.prog 73 #[enV e A n c] w fun x w' => x = .returned (.bool (Ent.sizedB e)) ∧ Below w.heap.size w w' := by
  obtain ⟨ix, sb, nm, ty, ac, mp, st, mx, lo, hi, df⟩ := e
  unfold enV
  dsimp only
  by_cases h1 : lo = 0
  · by_cases h2 : hi = 0
    · subst h1 h2
      by_cases h3 : 1 ≤ mx
      · by_cases h4 : mx ≤ 256
        · cases mp
          all_goals
            go_enter Tryz.func73, Tryz.ntmps73
            go_wp2_with fail
            go_ret
            exact ⟨ret_bool (by rw [Bool.eq_iff_iff]; simp [Ent.sizedB] <;> omega), alloc_one _ _⟩
        · go_enter Tryz.func73, Tryz.ntmps73
          go_wp2_with fail
          go_ret
          exact ⟨ret_bool (by rw [Bool.eq_iff_iff]; simp [Ent.sizedB] <;> omega), alloc_one _ _⟩
      · go_enter Tryz.func73, Tryz.ntmps73
        go_wp2_with fail
        go_ret
        exact ⟨ret_bool (by rw [Bool.eq_iff_iff]; simp [Ent.sizedB] <;> omega), alloc_one _ _⟩
    · have e1 : (hi == 0) = false := beq_false_of_ne h2
      subst h1
      go_enter Tryz.func73, Tryz.ntmps73
      go_wp2_with fail
      go_ret
      exact ⟨ret_bool (by rw [Bool.eq_iff_iff]; simp [Ent.sizedB] <;> omega), alloc_one _ _⟩
  · have e1 : (lo == 0) = false := beq_false_of_ne h1
    go_enter Tryz.func73, Tryz.ntmps73
    go_wp2_with fail
    go_ret
    exact ⟨ret_bool (by rw [Bool.eq_iff_iff]; simp [Ent.sizedB] <;> omega), alloc_one _ _⟩
end Go.Proofs.YtmolmpgampmolaaGreat
/-
  Walks: names of entries, program and reference.
  Conditions: none.
-/
namespace Go.Proofs.YtmolmpgampmolaaGreat
set_option linter.unusedVariables false
set_option linter.unusedSimpArgs false
open Go.RowKit
theorem getD_T (s : List UInt8) (k : Nat) (h : k < s.length) : s.drop k = s.getD k 0 :: s.drop (k + 1) := by
  rw [List.drop_eq_getElem_cons h, List.getD_eq_getElem?_getD, List.getElem?_eq_getElem h]
  rfl
theorem ent_byte_ne {c d : UInt8} {k : Int} (h : c ≠ d) (hk : (d.toNat : Int) = k) : ((c.toNat : Int) == k) = false := by
  rw [beq_eq_false_iff_ne]
  intro e
  exact h (UInt8.toNat_inj.1 (by omega))
theorem all_step {p : UInt8 → Bool} {s : List UInt8} {k : Nat} (h : k < s.length) : (s.drop k).all p = (p (s.getD k 0) && (s.drop (k + 1)).all p) := by rw [getD_T s k h, List.all_cons]
theorem eletter_any (c : UInt8) (w : World) : Calls Tryz.prog 115 #[.int .u8 (c.toNat : Int)] w fun e w' => e = .returned (.bool (Ent.low c)) ∧ w = w' := by
  have hc := byte_lt c
  by_cases h1 : 97 ≤ c.toNat
  all_goals
    go_enter Tryz.func115, Tryz.ntmps115
    go_wp2_with fail
    go_ret
    exact ⟨ret_bool (by rw [Bool.eq_iff_iff]; simp [Ent.low] <;> omega), rfl⟩
theorem einner_any (c : UInt8) (w : World) : Calls Tryz.prog 116 #[.int .u8 (c.toNat : Int)] w fun e w' => e = .returned (.bool (Ent.inner c)) ∧ w = w' := by
  have hc := byte_lt c
  have L := eletter_any c w
  generalize hl : Ent.low c = l at *
  replace L := Lib.hid L
  have HL := Lib.hid hl; clear hl
  cases l with
  | true =>
    go_enter Tryz.func116, Tryz.ntmps116
    go_wp2_with fail
    refine (L.out).mono ?_
    rintro e _ ⟨rfl, rfl⟩
    go_wp2_with fail
    go_ret
    exact ⟨ret_bool (by unfold Ent.inner; rw [HL.out]; rfl), rfl⟩
  | false =>
    by_cases h1 : 48 ≤ c.toNat
    · by_cases h2 : c.toNat ≤ 57
      · go_enter Tryz.func116, Tryz.ntmps116
        go_wp2_with fail
        refine (L.out).mono ?_
        rintro e _ ⟨rfl, rfl⟩
        go_wp2_with fail
        go_ret
        exact ⟨ret_bool (by unfold Ent.inner Ty.isD; rw [decide_eq_true ⟨h1, h2⟩]; simp), rfl⟩
      · by_cases h3 : c = 95
        · subst h3
          go_enter Tryz.func116, Tryz.ntmps116
          go_wp2_with fail
          refine (L.out).mono ?_
          rintro e _ ⟨rfl, rfl⟩
          go_wp2_with fail
          go_ret
          exact ⟨rfl, rfl⟩
        · have e3 := ent_byte_ne (k := 95) h3 rfl
          go_enter Tryz.func116, Tryz.ntmps116
          go_wp2_with fail
          refine (L.out).mono ?_
          rintro e _ ⟨rfl, rfl⟩
          go_wp2_with fail
          go_ret
          exact ⟨ret_bool (by unfold Ent.inner; rw [HL.out]; unfold Ty.isD; rw [decide_eq_false (by omega : ¬(48 ≤ c.toNat ∧ c.toNat ≤ 57)), beq_false_of_ne h3]; simp <;> omega), rfl⟩
    · have h3 : c ≠ 95 := by rintro rfl; exact h1 (by decide)
      have e3 := ent_byte_ne (k := 95) h3 rfl
      go_enter Tryz.func116, Tryz.ntmps116
      go_wp2_with fail
      refine (L.out).mono ?_
      rintro e _ ⟨rfl, rfl⟩
      go_wp2_with fail
      go_ret
      exact ⟨ret_bool (by unfold Ent.inner; rw [HL.out]; unfold Ty.isD; rw [decide_eq_false (by omega : ¬(48 ≤ c.toNat ∧ c.toNat ≤ 57)), beq_false_of_ne h3]; simp <;> omega), rfl⟩
theorem name_empty : Ent.nameB [] = false := rfl
theorem name_long {s : List UInt8} (h : 16 < s.length) : Ent.nameB s = false := by unfold Ent.nameB; rw [decide_eq_false (by omega)]; rfl
theorem name_first {c : UInt8} {r : List UInt8} (h : Ent.low c = false) : Ent.nameB (c :: r) = false := by unfold Ent.nameB; simp [h]
theorem name_rest {c : UInt8} {r : List UInt8} (h : Ent.low c = true) (hl : (c :: r).length ≤ 16) : Ent.nameB (c :: r) = (c :: r).all Ent.inner := by unfold Ent.nameB; rw [decide_eq_true ⟨by simp, hl⟩]; simp [h]
set_option maxRecDepth 100000 in
set_option maxHeartbeats 4000000 in
theorem Name_any (s : List UInt8) (w : World) (hs : s.length ≤ 9223372036854775807) : Calls Tryz.prog 69 #[.string (T s)] w fun e w' => e = .returned (.bool (Ent.nameB s)) ∧ w = w' := by
  have hT := T_size s
  cases s with
  | nil =>
    go_enter Tryz.func69, Tryz.ntmps69
    have h0 : T [] = (⟨#[]⟩ : ByteArray) := rfl
    go_wp2_with fail
    go_ret
    exact ⟨rfl, rfl⟩
  | cons c r =>
    have htl := T_toList (c :: r)
    have hne : ((c :: r : List UInt8) == []) = false := rfl
    by_cases hl : 16 < (c :: r).length
    · have HV := Lib.hid (name_long hl)
      generalize (c :: r : List UInt8) = s at *
      go_enter Tryz.func69, Tryz.ntmps69
      go_wp2_with fail
      go_ret
      exact ⟨by rw [HV.out]; rfl, rfl⟩
    have hat0 := fun w => run_T_at (c :: r) .i64 0 0 rfl (by simp) w
    rw [show (c :: r).getD 0 0 = c from rfl] at hat0
    have L := fun w => eletter_any c w
    cases hlo : Ent.low c with
    | false =>
      rw [hlo] at L
      have HV := Lib.hid (name_first (r := r) hlo)
      replace L := Lib.hid L
      clear hlo
      generalize (c :: r : List UInt8) = s at *
      go_enter Tryz.func69, Tryz.ntmps69
      go_wp2_with fail
      refine (L.out _).mono ?_
      rintro e _ ⟨rfl, rfl⟩
      go_wp2_with fail
      go_ret
      exact ⟨by rw [HV.out]; rfl, rfl⟩
    | true =>
      rw [hlo] at L
      have HV : Hid (Ent.nameB (c :: r) = ((c :: r).drop 0).all Ent.inner) := Lib.hid (by rw [List.drop_zero]; exact name_rest hlo (by omega))
      replace L := Lib.hid L
      clear hlo
      have hpos : 0 < (c :: r).length := by simp
      generalize (c :: r : List UInt8) = s at *
      generalize Ent.nameB s = res at *
      go_enter Tryz.func69, Tryz.ntmps69
      go_wp2_with fail
      refine (L.out _).mono ?_
      rintro e w ⟨rfl, rfl⟩
      go_wp2_with fail
      go_loop [2, 19] (fun x v => x = .bool false ∧ ∃ k : Nat, k ≤ s.length ∧ v = .int .i64 k ∧ Hid (res = (s.drop k).all Ent.inner)) (fun _ v => s.length - (intOf v).toNat)
      case atStart => exact ⟨rfl, 0, by omega, rfl, HV⟩
      case round =>
        obtain ⟨rfl, k, hk, rfl, hq⟩ := hrel
        by_cases hlt : k < s.length
        · have hat := fun w => run_T_at s .i64 k k rfl hlt w
          have hst := hq.out
          rw [all_step hlt] at hst
          have I := fun w => einner_any (s.getD k 0) w
          clear hq
          generalize s.getD k 0 = d at *
          cases hi : Ent.inner d with
          | true =>
            rw [hi] at I hst
            rw [Bool.true_and] at hst
            have HQ := Lib.hid hst
            replace I := Lib.hid I
            clear hst hi
            go_wp2_with fail
            refine (I.out _).mono ?_
            rintro e w ⟨rfl, rfl⟩
            go_wp2_with fail
            go_round
            case rel => exact ⟨rfl, k + 1, by omega, by go_num, HQ⟩
            case measure => simp [intOf] <;> omega
          | false =>
            rw [hi] at I hst
            rw [Bool.false_and] at hst
            have HQ := Lib.hid hst
            replace I := Lib.hid I
            clear hst hi
            go_wp2_with fail
            refine (I.out _).mono ?_
            rintro e w ⟨rfl, rfl⟩
            go_wp2_with fail
            go_ret
            exact ⟨by rw [HQ.out]; rfl, rfl⟩
        · have HQ : Hid (res = true) := Lib.hid (by rw [hq.out, List.drop_of_length_le (by omega)]; rfl)
          clear hq
          obtain rfl : k = s.length := by omega
          go_wp2_with fail
          go_ret
          exact ⟨by rw [HQ.out]; rfl, rfl⟩
set_option maxRecDepth 100000 in
set_option maxHeartbeats 4000000 in
theorem RName14_any (s : List UInt8) (w : World) (hs : s.length ≤ 9223372036854775807) : Calls Tryz.prog 64 #[.string (T s)] w fun e w' => e = .returned (.bool (Ent.nameB s)) ∧ w = w' := by
  have hT := T_size s
  cases s with
  | nil =>
    go_enter Tryz.func64, Tryz.ntmps64
    go_wp2_with fail
    go_ret
    exact ⟨rfl, rfl⟩
  | cons c r =>
    have hlen1 : 1 ≤ (c :: r).length := by simp
    by_cases hl : 16 < (c :: r).length
    · have HV := Lib.hid (name_long hl)
      generalize (c :: r : List UInt8) = s at *
      go_enter Tryz.func64, Tryz.ntmps64
      go_wp2_with fail
      go_ret
      exact ⟨by rw [HV.out]; rfl, rfl⟩
    have hat0 := fun w => run_T_at (c :: r) .i64 0 0 rfl (by simp) w
    rw [show (c :: r).getD 0 0 = c from rfl] at hat0
    have hc := byte_lt c
    by_cases h1 : c.toNat < 97
    · have HV := Lib.hid (name_first (r := r) (show Ent.low c = false by unfold Ent.low; exact decide_eq_false (by omega)))
      generalize (c :: r : List UInt8) = s at *
      go_enter Tryz.func64, Tryz.ntmps64
      go_wp2_with fail
      go_ret
      exact ⟨by rw [HV.out]; rfl, rfl⟩
    by_cases h2 : 122 < c.toNat
    · have HV := Lib.hid (name_first (r := r) (show Ent.low c = false by unfold Ent.low; exact decide_eq_false (by omega)))
      generalize (c :: r : List UInt8) = s at *
      go_enter Tryz.func64, Tryz.ntmps64
      go_wp2_with fail
      go_ret
      exact ⟨by rw [HV.out]; rfl, rfl⟩
    have hlo : Ent.low c = true := by unfold Ent.low; exact decide_eq_true (by omega)
    have HV : Hid (Ent.nameB (c :: r) = ((c :: r).drop 0).all Ent.inner) := Lib.hid (by rw [List.drop_zero]; exact name_rest hlo (by omega))
    clear hlo
    generalize (c :: r : List UInt8) = s at *
    generalize Ent.nameB s = res at *
    go_enter Tryz.func64, Tryz.ntmps64
    go_wp2_with fail
    go_loop [2, 3] (fun x v => x = .bool false ∧ ∃ k : Nat, k ≤ s.length ∧ v = .int .i64 k ∧ Hid (res = (s.drop k).all Ent.inner)) (fun _ v => s.length - (intOf v).toNat)
    case atStart => exact ⟨rfl, 0, by omega, rfl, HV⟩
    case round =>
      obtain ⟨rfl, k, hk, rfl, hq⟩ := hrel
      by_cases hlt : k < s.length
      · have hat := fun w => run_T_at s .i64 k k rfl hlt w
        have hst := hq.out
        rw [all_step hlt] at hst
        clear hq
        have hd256 := byte_lt (s.getD k 0)
        generalize s.getD k 0 = d at *
        have hdef : Ent.inner d = (decide (97 ≤ d.toNat ∧ d.toNat ≤ 122) || decide (48 ≤ d.toNat ∧ d.toNat ≤ 57) || d == 95) := rfl
        by_cases a1 : 97 ≤ d.toNat ∧ d.toNat ≤ 122
        · have HQ : Hid (res = (s.drop (k + 1)).all Ent.inner) := Lib.hid (by rw [hst, hdef, decide_eq_true a1]; simp)
          obtain ⟨a1, a1'⟩ := a1
          clear hst hdef
          go_wp2_with fail
          go_round
          case rel => exact ⟨rfl, k + 1, by omega, by go_num, HQ⟩
          case measure => simp [intOf] <;> omega
        by_cases a2 : 48 ≤ d.toNat ∧ d.toNat ≤ 57
        · have HQ : Hid (res = (s.drop (k + 1)).all Ent.inner) := Lib.hid (by rw [hst, hdef, decide_eq_true a2]; simp)
          obtain ⟨a2, a2'⟩ := a2
          have a3 : ¬ 97 ≤ d.toNat := by omega
          clear hst hdef a1
          go_wp2_with fail
          go_round
          case rel => exact ⟨rfl, k + 1, by omega, by go_num, HQ⟩
          case measure => simp [intOf] <;> omega
        by_cases a3 : d = 95
        · have HQ : Hid (res = (s.drop (k + 1)).all Ent.inner) := Lib.hid (by rw [hst, hdef, a3]; simp)
          subst a3
          clear hst hdef a1 a2
          go_wp2_with fail
          go_round
          case rel => exact ⟨rfl, k + 1, by omega, by go_num, HQ⟩
          case measure => simp [intOf] <;> omega
        · have e3 := ent_byte_ne (k := 95) a3 rfl
          have e3' : ((d.toNat : Int) != 95) = true := by show (!((d.toNat : Int) == 95)) = true; rw [e3]; rfl
          have HQ : Hid (res = false) := Lib.hid (by rw [hst, hdef, decide_eq_false a1, decide_eq_false a2, beq_false_of_ne a3]; rfl)
          clear hst hdef a3
          by_cases b1 : 97 ≤ d.toNat
          · have b2 : ¬ d.toNat ≤ 122 := by omega
            have f2 : decide ((d.toNat : Int) ≤ 122) = false := decide_eq_false (by omega)
            by_cases b3 : 48 ≤ d.toNat
            · have b4 : ¬ d.toNat ≤ 57 := by omega
              have f4 : decide ((d.toNat : Int) ≤ 57) = false := decide_eq_false (by omega)
              clear a1 a2
              go_wp2_with fail
              go_ret
              exact ⟨by rw [HQ.out]; rfl, rfl⟩
            · omega
          · by_cases b3 : 48 ≤ d.toNat
            · have b4 : ¬ d.toNat ≤ 57 := by omega
              have f4 : decide ((d.toNat : Int) ≤ 57) = false := decide_eq_false (by omega)
              clear a1 a2
              go_wp2_with fail
              go_ret
              exact ⟨by rw [HQ.out]; rfl, rfl⟩
            · clear a1 a2
              go_wp2_with fail
              go_ret
              exact ⟨by rw [HQ.out]; rfl, rfl⟩
      · have HQ : Hid (res = true) := Lib.hid (by rw [hq.out, List.drop_of_length_le (by omega)]; rfl)
        clear hq
        obtain rfl : k = s.length := by omega
        go_wp2_with fail
        go_ret
        exact ⟨by rw [HQ.out]; rfl, rfl⟩
end Go.Proofs.YtmolmpgampmolaaGreat
/-
  Walks: what the reference knows of a type.
  Conditions: none.
-/
namespace Go.Proofs.YtmolmpgampmolaaGreat
set_option linter.unusedVariables false
set_option linter.unusedSimpArgs false
open Go.RowKit
theorem not_num {t : Int} (h : t ∉ Ty.nums) : (t == 1) = false ∧ (t == 2) = false ∧ (t == 3) = false ∧ (t == 4) = false ∧ (t == 5) = false ∧ (t == 6) = false ∧ (t == 7) = false ∧ (t == 9) = false ∧ (t == 10) = false ∧ (t == 15) = false ∧ (t == 21) = false := by
  unfold Ty.nums at h
  simp only [List.mem_cons, List.not_mem_nil, or_false, not_or] at h
  simp only [beq_eq_false_iff_ne, ne_eq]
  exact h
set_option maxRecDepth 100000 in
set_option maxHeartbeats 4000000 in
theorem RName_any (t : Int) (w : World) : Calls Tryz.prog 39 #[.int .i64 t] w fun e w' => e = .returned (.string (T (Ty.kd t).name)) ∧ w = w' := by
  rcases Ty.kd_cases t with h | ⟨hn, h⟩
  · rcases h with rfl | rfl | rfl | rfl | rfl | rfl | rfl | rfl | rfl | rfl | rfl
    all_goals
      go_enter Tryz.func39, Tryz.ntmps39
      go_wp2_with fail
      go_ret
      exact ⟨rfl, rfl⟩
  · rw [h]
    obtain ⟨q1, q2, q3, q4, q5, q6, q7, q8, q9, q10, q11⟩ := not_num hn
    clear h hn
    go_enter Tryz.func39, Tryz.ntmps39
    go_wp2_with fail
    go_ret
    exact ⟨rfl, rfl⟩
set_option maxRecDepth 100000 in
set_option maxHeartbeats 4000000 in
theorem RSize_any (t : Int) (w : World) : Calls Tryz.prog 111 #[.int .i64 t] w fun e w' => e = .returned (.int .i64 ((Ty.kd t).size : Int)) ∧ w = w' := by
  rcases Ty.kd_cases t with h | ⟨hn, h⟩
  · rcases h with rfl | rfl | rfl | rfl | rfl | rfl | rfl | rfl | rfl | rfl | rfl
    all_goals
      go_enter Tryz.func111, Tryz.ntmps111
      go_wp2_with fail
      go_ret
      exact ⟨rfl, rfl⟩
  · rw [h]
    obtain ⟨q1, q2, q3, q4, q5, q6, q7, q8, q9, q10, q11⟩ := not_num hn
    clear h hn
    go_enter Tryz.func111, Tryz.ntmps111
    go_wp2_with fail
    go_ret
    exact ⟨rfl, rfl⟩
set_option maxRecDepth 100000 in
set_option maxHeartbeats 4000000 in
theorem RSigned_any (t : Int) (w : World) : Calls Tryz.prog 82 #[.int .i64 t] w fun e w' => e = .returned (.bool (Ty.kd t).sgn) ∧ w = w' := by
  rcases Ty.kd_cases t with h | ⟨hn, h⟩
  · rcases h with rfl | rfl | rfl | rfl | rfl | rfl | rfl | rfl | rfl | rfl | rfl
    all_goals
      go_enter Tryz.func82, Tryz.ntmps82
      go_wp2_with fail
      go_ret
      exact ⟨rfl, rfl⟩
  · rw [h]
    obtain ⟨q1, q2, q3, q4, q5, q6, q7, q8, q9, q10, q11⟩ := not_num hn
    clear h hn
    go_enter Tryz.func82, Tryz.ntmps82
    go_wp2_with fail
    go_ret
    exact ⟨rfl, rfl⟩
set_option maxHeartbeats 4000000 in
theorem RTBits_any (t : Int) (w : World) : Calls Tryz.prog 58 #[.int .i64 t] w fun e w' => e = .returned (.int .i64 ((Ty.kd t).bits : Int)) ∧ w = w' := by
  have C := RSize_any t w
  by_cases h1 : t = 1
  · subst h1
    clear C
    go_enter Tryz.func58, Tryz.ntmps58
    go_wp2_with fail
    go_ret
    exact ⟨rfl, rfl⟩
  · have h2 : (t == 1) = false := by rw [beq_eq_false_iff_ne]; exact h1
    have h3 : (Ty.kd t).bits = 8 * (Ty.kd t).size ∧ (Ty.kd t).size ≤ 8 := by
      rcases Ty.kd_cases t with h | ⟨hn, h⟩
      · rcases h with rfl | rfl | rfl | rfl | rfl | rfl | rfl | rfl | rfl | rfl | rfl
        · exact absurd rfl h1
        all_goals decide
      · rw [h]; decide
    obtain ⟨h3, h4⟩ := h3
    rw [h3]
    generalize (Ty.kd t).size = sz at *
    replace C := Lib.hid C
    clear h1 h3
    go_enter Tryz.func58, Tryz.ntmps58
    go_wp2_with fail
    refine (C.out).mono ?_
    rintro e _ ⟨rfl, rfl⟩
    go_wp2_with fail
    go_ret
    exact ⟨ret_int (by omega), rfl⟩
theorem RKnown_any (t : Int) (w : World) : Calls Tryz.prog 57 #[.int .i64 t] w fun e w' => e = .returned (.bool (knownB t)) ∧ w = w' := by
  have C := Lib.hid (RName_any t w)
  unfold knownB
  generalize (Ty.kd t).name = nm at *
  have e1 := T_toList nm
  go_enter Tryz.func57, Tryz.ntmps57
  go_wp2_with fail
  refine (C.out).mono ?_
  rintro e _ ⟨rfl, rfl⟩
  go_wp2_with fail
  go_ret
  exact ⟨rfl, rfl⟩
set_option maxRecDepth 100000 in
set_option maxHeartbeats 4000000 in
theorem RByName_any (s : List UInt8) (w : World) : Calls Tryz.prog 110 #[.string (T s)] w fun e w' => e = .returned (.tuple #[.int .i64 (nameS s).1, .bool (nameS s).2]) ∧ w = w' := by
  go_enter Tryz.func110, Tryz.ntmps110
  go_wp2_with fail
  go_loop [4] (fun i => ∃ k : Nat, 1 ≤ k ∧ k ≤ 32 ∧ i = .int .i64 k ∧ NoName s k) (fun i => 32 - (intOf i).toNat)
  case atStart =>
    refine ⟨1, by omega, by omega, rfl, ?_⟩
    by_cases hs : s = []
    · exact .inl hs
    · refine .inr fun j hj => ?_
      obtain rfl : j = 0 := by omega
      exact fun h => hs h.symm
  case round =>
    obtain ⟨k, hk1, hk, rfl, hno⟩ := hrel
    have HN := Lib.hid hno; clear hno
    by_cases hlt : k < 32
    · have hnx : (Ty.kd (k : Int)).name = s → s ≠ [] → nameS s = ((k : Int), true) := fun h1 h2 => nameS_some h2 HN.out hlt h1
      have hnn : (Ty.kd (k : Int)).name ≠ s ∨ s = [] → NoName s (k + 1) := fun h => by
        rcases h with h | h
        · rcases HN.out with h2 | h2
          · exact .inl h2
          · refine .inr fun j hj => ?_
            rcases Nat.lt_or_ge j k with h3 | h3
            · exact h2 j h3
            · obtain rfl : j = k := by omega
              exact h
        · exact .inl h
      have C := Lib.hid (RName_any (k : Int) w)
      generalize (Ty.kd (k : Int)).name = nm at *
      have HNX := Lib.hid hnx; have HNN := Lib.hid hnn
      clear hnx hnn
      have e1 := T_toList s
      have e2 := T_toList nm
      by_cases h2 : s = []
      · have HNN2 := Lib.hid (HNN.out (.inr h2))
        subst h2
        go_wp2_with fail
        go_round
        case rel => exact ⟨k + 1, by omega, by omega, by go_num, HNN2.out⟩
        case measure => simp [intOf] <;> omega
      · have h4 : s.isEmpty = false := by simpa using h2
        have h5 : (s == []) = false := by simpa using h2
        by_cases h1 : nm = s
        · have HR := Lib.hid (HNX.out h1 h2)
          subst h1
          clear h2
          go_wp2_with fail
          refine (C.out).mono ?_
          rintro e _ ⟨rfl, rfl⟩
          go_wp2_with fail
          go_ret2
          exact ⟨by rw [HR.out]; rfl, rfl⟩
        · have HNN2 := Lib.hid (HNN.out (.inl h1))
          have h3 : (nm == s) = false := by simpa using h1
          clear h1 h2
          go_wp2_with fail
          refine (C.out).mono ?_
          rintro e _ ⟨rfl, rfl⟩
          go_wp2_with fail
          go_round
          case rel => exact ⟨k + 1, by omega, by omega, by go_num, HNN2.out⟩
          case measure => simp [intOf] <;> omega
    · obtain rfl : k = 32 := by omega
      have HR := Lib.hid (nameS_none HN.out)
      go_wp2_with fail
      go_ret2
      exact ⟨by rw [HR.out]; rfl, rfl⟩
/-- The loop's number behind i rounds. -/
theorem ones_step (i : Nat) (h : i < 63) : 2 * (((2 ^ i : Nat) : Int) - 1) + 1 = ((2 ^ (i + 1) : Nat) : Int) - 1 := by
  rw [Nat.pow_succ]; omega
set_option maxRecDepth 100000 in
set_option maxHeartbeats 4000000 in
theorem RLimits_any (t : Int) (w : World) : Calls Tryz.prog 36 #[.int .i64 t] w fun e w' => e = .returned (.tuple #[.int .i64 (Ty.limS t).1, .int .i64 (Ty.limS t).2.1, .bool (Ty.limS t).2.2]) ∧ w = w' := by
  have C1 := RTBits_any t w
  have C2 := RSigned_any t w
  have hl : Ty.limS t = if (Ty.kd t).bits = 0 then (0, 0, false) else if (Ty.kd t).sgn = true then (-((2 ^ ((Ty.kd t).bits - 1) : Nat) : Int), ((2 ^ ((Ty.kd t).bits - 1) : Nat) : Int) - 1, true) else (0, ((2 ^ (Ty.kd t).bits : Nat) : Int) - 1, true) := rfl
  have hc : (Ty.kd t).bits = 0 ∨ ((Ty.kd t).sgn = true ∧ 1 ≤ (Ty.kd t).bits ∧ (Ty.kd t).bits ≤ 64) ∨ ((Ty.kd t).sgn = false ∧ 1 ≤ (Ty.kd t).bits ∧ (Ty.kd t).bits ≤ 32) := by
    rcases Ty.kd_cases t with h | ⟨_, h⟩
    · rcases h with rfl | rfl | rfl | rfl | rfl | rfl | rfl | rfl | rfl | rfl | rfl <;> decide
    · rw [h]; exact .inl rfl
  generalize (Ty.kd t).bits = bt at *
  generalize (Ty.kd t).sgn = sg at *
  replace C1 := Lib.hid C1; replace C2 := Lib.hid C2
  rcases hc with rfl | ⟨rfl, hb1, hb2⟩ | ⟨rfl, hb1, hb2⟩
  · have HL := Lib.hid hl; clear hl
    go_enter Tryz.func36, Tryz.ntmps36
    go_wp2_with fail
    refine (C1.out).mono ?_
    rintro e _ ⟨rfl, rfl⟩
    go_wp2_with fail
    go_ret3
    exact ⟨by rw [HL.out]; rfl, rfl⟩
  · rw [if_neg (by omega), if_pos rfl] at hl
    have HL := Lib.hid hl; clear hl
    obtain ⟨n, rfl⟩ : ∃ n, bt = n + 1 := ⟨bt - 1, by omega⟩
    go_enter Tryz.func36, Tryz.ntmps36
    go_wp2_with fail
    refine (C1.out).mono ?_
    rintro e _ ⟨rfl, rfl⟩
    go_wp2_with fail
    refine (C2.out).mono ?_
    rintro e _ ⟨rfl, rfl⟩
    go_wp2_with fail
    go_loop [6, 7] (fun v i => ∃ k : Nat, k ≤ n ∧ i = .int .i64 k ∧ v = .int .i64 (((2 ^ k : Nat) : Int) - 1)) (fun _ i => n - (intOf i).toNat)
    case atStart => exact ⟨0, by omega, rfl, rfl⟩
    case round =>
      obtain ⟨k, hk, rfl, rfl⟩ := hrel
      have hp : 2 ^ k ≤ 2 ^ 63 := Nat.pow_le_pow_right (by decide) (by omega)
      have hp1 : 1 ≤ 2 ^ k := Nat.one_le_two_pow
      by_cases hlt : k < n
      · have hst := ones_step k (by omega)
        have hp2 : 2 ^ k ≤ 2 ^ 62 := Nat.pow_le_pow_right (by decide) (by omega)
        generalize 2 ^ k = q at *
        have HS := Lib.hid hst; clear hst
        go_wp2_with fail
        go_round
        case rel => exact ⟨k + 1, by omega, by go_num, by rw [← HS.out]⟩
        case measure => simp [intOf] <;> omega
      · obtain rfl : k = n := by omega
        have HE : Hid (Ty.limS t = (-((2 ^ k : Nat) : Int), ((2 ^ k : Nat) : Int) - 1, true)) := Lib.hid HL.out
        generalize 2 ^ k = q at *
        go_wp2_with fail
        refine (C2.out).mono ?_
        rintro e _ ⟨rfl, rfl⟩
        go_wp2_with fail
        go_ret3
        refine ⟨?_, rfl⟩
        rw [HE.out]
        show Ending.returned (.tuple #[.int .i64 (-((q : Int) - 1) - 1), .int .i64 ((q : Int) - 1), .bool true]) = _
        rw [show -((q : Int) - 1) - 1 = -(q : Int) by omega]
  · rw [if_neg (by omega), if_neg (by decide)] at hl
    have HL := Lib.hid hl; clear hl
    have hbz : ((bt : Int) == 0) = false := by rw [beq_eq_false_iff_ne]; omega
    go_enter Tryz.func36, Tryz.ntmps36
    go_wp2_with fail
    refine (C1.out).mono ?_
    rintro e _ ⟨rfl, rfl⟩
    go_wp2_with fail
    refine (C2.out).mono ?_
    rintro e _ ⟨rfl, rfl⟩
    go_wp2_with fail
    go_loop [6, 7] (fun v i => ∃ k : Nat, k ≤ bt ∧ i = .int .i64 k ∧ v = .int .i64 (((2 ^ k : Nat) : Int) - 1)) (fun _ i => bt - (intOf i).toNat)
    case atStart => exact ⟨0, by omega, rfl, rfl⟩
    case round =>
      obtain ⟨k, hk, rfl, rfl⟩ := hrel
      have hp : 2 ^ k ≤ 2 ^ 63 := Nat.pow_le_pow_right (by decide) (by omega)
      have hp1 : 1 ≤ 2 ^ k := Nat.one_le_two_pow
      by_cases hlt : k < bt
      · have hst := ones_step k (by omega)
        have hp2 : 2 ^ k ≤ 2 ^ 62 := Nat.pow_le_pow_right (by decide) (by omega)
        generalize 2 ^ k = q at *
        have HS := Lib.hid hst; clear hst
        go_wp2_with fail
        go_round
        case rel => exact ⟨k + 1, by omega, by go_num, by rw [← HS.out]⟩
        case measure => simp [intOf] <;> omega
      · obtain rfl : k = bt := by omega
        have HE : Hid (Ty.limS t = (0, ((2 ^ k : Nat) : Int) - 1, true)) := Lib.hid HL.out
        generalize 2 ^ k = q at *
        go_wp2_with fail
        refine (C2.out).mono ?_
        rintro e _ ⟨rfl, rfl⟩
        go_wp2_with fail
        go_ret3
        exact ⟨by rw [HE.out]; rfl, rfl⟩
end Go.Proofs.YtmolmpgampmolaaGreat
/-
  Walks: octet.there, octet.Put.
  Conditions: none.
-/
namespace Go.Proofs.YtmolmpgampmolaaGreat
set_option linter.unusedVariables false
set_option linter.unusedSimpArgs false
open Go.RowKit
theorem there_yes (x : Int) (w : World) (h1 : 1 ≤ x) (h2 : x ≤ 8) : Calls Tryz.prog 131 #[.int .i64 x] w fun e w' => e = .returned (.bool true) ∧ w = w' := by
  go_enter Tryz.func131, Tryz.ntmps131
  go_wp2
  go_ret
  exact ⟨by simp [h2], rfl⟩
theorem there_no (x : Int) (w : World) (h : ¬ (1 ≤ x ∧ x ≤ 8)) : Calls Tryz.prog 131 #[.int .i64 x] w fun e w' => e = .returned (.bool false) ∧ w = w' := by
  by_cases h1 : 1 ≤ x
  · have h2 : ¬ x ≤ 8 := fun h2 => h ⟨h1, h2⟩
    clear h
    go_enter Tryz.func131, Tryz.ntmps131
    go_wp2
    all_goals
      go_ret
      exact ⟨by simp <;> omega, rfl⟩
  · clear h
    go_enter Tryz.func131, Tryz.ntmps131
    go_wp2
    all_goals
      go_ret
      exact ⟨by simp <;> omega, rfl⟩

set_option maxHeartbeats 400000 in
theorem Put_arg {A : Option Addr} {n c : Nat} (x m : Int) (w : World) (h : ¬ (1 ≤ x ∧ x ≤ 8)) :
    Calls Tryz.prog 122 #[.slice A n c, .int .i64 x, .int .u64 m] w fun e w' => e = .returned (.tuple #[.slice none 0 0, .int .i64 1]) ∧ w = w' := by
  go_enter Tryz.func122, Tryz.ntmps122
  go_wp2_with (go_at_call 131; refine (there_no _ _ h).mono ?_; rintro e w' ⟨rfl, rfl⟩)
  go_ret2
  exact ⟨rfl, rfl⟩

theorem pow_shift (k : Nat) : (2 : Int) ^ (8 * k) = ((256 ^ k : Nat) : Int) := by
  rw [Int.pow_mul]; simp
theorem byte_shift (m j : Nat) : ((m : Int) / 2 ^ (8 * j)) % 256 = ((UInt8.ofNat (m / 256 ^ j)).toNat : Int) := by
  rw [pow_shift, ← Int.natCast_ediv, UInt8.toNat_ofNat']
  simp
set_option maxHeartbeats 400000 in
theorem Put_range {A : Option Addr} {n c : Nat} (k m : Nat) (w : World) (h1 : 1 ≤ k) (h2 : k ≤ 8) (hm : m < 18446744073709551616) (h : 256 ^ k ≤ m) :
    Calls Tryz.prog 122 #[.slice A n c, .int .i64 (k : Int), .int .u64 (m : Int)] w fun e w' => e = .returned (.tuple #[.slice none 0 0, .int .i64 9]) ∧ w = w' := by
  have hk : k < 8 := by
    rcases Nat.lt_or_ge k 8 with hk | hk
    · exact hk
    · obtain rfl : k = 8 := by omega
      omega
  have ht : ((m : Int) / 2 ^ (8 * k) != 0) = true := by
    rw [pow_shift, bne_iff_ne, ← Int.natCast_ediv]
    have := Nat.div_pos h (Nat.pow_pos (by decide : 0 < 256))
    omega
  clear h
  go_enter Tryz.func122, Tryz.ntmps122
  go_wp2_with (first | (go_at_call 131; refine (there_yes _ _ (by omega) (by omega)).mono ?_; rintro e w' ⟨rfl, rfl⟩) | fail)
  go_ret2
  exact ⟨rfl, rfl⟩

set_option maxHeartbeats 1000000 in
theorem Put_ok {A : Option Addr} {n c B : Nat} {l : List UInt8} (k m : Nat) (w : World) (hb : RB w B A n c l) (hn : n < 140737488355000) (hB : B ≤ w.heap.size) (h1 : 1 ≤ k) (h2 : k ≤ 8) (hm : m < 18446744073709551616) (h : m < 256 ^ k) :
    Calls Tryz.prog 122 #[.slice A n c, .int .i64 (k : Int), .int .u64 (m : Int)] w fun e w' =>
      ∃ A1 c1, e = .returned (.tuple #[.slice A1 (n + k) c1, .int .i64 0]) ∧ OB w' w.heap.size A1 (n + k) c1 (l ++ Oct.lb k m) ∧ Below w.heap.size w w' := by
  have ht : ((m : Int) / 2 ^ (8 * k) != 0) = false := by
    rw [pow_shift, bne_eq_false_iff_eq, ← Int.natCast_ediv, Nat.div_eq_of_lt h]; rfl
  clear h
  by_cases hk : k < 8
  all_goals
    go_enter Tryz.func122, Tryz.ntmps122
    go_wp2_with (first
      | (go_at_call 131; refine (there_yes _ _ (by omega) (by omega)).mono ?_; rintro e w' ⟨rfl, rfl⟩)
      | (at_make; refine wpList_mkb etb rfl (.tmp 26) (.tmp 30) rfl .i64 .i64 n (n + k) rfl rfl (by omega) (by omega) w.heap.size (Nat.le_refl _) ?_; intro w1 hw1 hb1 hs1)
      | (refine wpList_cpb etb rfl (.tmp 32) (.tmp 33) rfl rfl rfl w.heap.size hw1 (hb.below (hb1.mono hB)) (Nat.le_refl _) ?_; intro w2 hw2 hg2 hs2; have hb2 := grown_below hg2 hw1.lt (by omega))
      | fail)
    rw [List.drop_of_length_le (by simp), List.append_nil] at hw2
    go_loopw [8, 36] (fun v i wr => ∃ (j : Nat) (A1 : Option Addr) (c1 : Nat), j ≤ k ∧ i = .int .i64 j ∧ v = .slice A1 (n + j) c1 ∧ OB wr w.heap.size A1 (n + j) c1 (l ++ Oct.lb j m) ∧ Below w.heap.size w wr) (fun _ i _ => k - (intOf i).toNat)
    case atStart => exact ⟨0, _, _, Nat.zero_le _, rfl, rfl, by simpa [Oct.lb] using hw2, hb1.trans hb2⟩
    case round =>
      obtain ⟨j, A1, c1, hj, rfl, rfl, hown, hbel⟩ := hrel
      by_cases hlt : j < k
      · go_wp2_with (at_builtin; refine wpList_appb_one etb rfl (.tmp 39) (.tmp 46) rfl rfl rfl w.heap.size hown (UInt8.ofNat (m / 256 ^ j)) (byte_shift m j) (by omega) hbel.size ?_; intro A2 c2 w3 h3 hb3 _ _)
        go_roundw
        case rel => exact ⟨j + 1, A2, c2, by omega, by go_num, rfl, by rw [Oct.lb, ← List.append_assoc]; exact h3, hbel.trans hb3⟩
        case measure => simp [intOf]; omega
      · obtain rfl : j = k := by omega
        go_wp2
        go_ret2
        exact ⟨_, _, rfl, hown, hbel⟩
end Go.Proofs.YtmolmpgampmolaaGreat
/-
  Walks: octet.Get.
  Conditions: none.
-/
namespace Go.Proofs.YtmolmpgampmolaaGreat
set_option linter.unusedVariables false
set_option linter.unusedSimpArgs false
open Go.RowKit
set_option maxHeartbeats 400000 in
theorem Get_arg {A : Option Addr} {n c : Nat} (x p : Int) (w : World) (h : ¬ (1 ≤ x ∧ x ≤ 8) ∨ p < 0 ∨ (n : Int) < p) :
    Calls Tryz.prog 125 #[.slice A n c, .int .i64 p, .int .i64 x] w fun e w' => e = .returned (.tuple #[.int .u64 0, .int .i64 1]) ∧ w = w' := by
  by_cases hx : 1 ≤ x ∧ x ≤ 8
  · have h' : p < 0 ∨ (n : Int) < p := h.resolve_left (fun h => h hx)
    clear h
    obtain ⟨h1, h2⟩ := hx
    by_cases hp : p < 0
    · go_enter Tryz.func125, Tryz.ntmps125
      go_wp2_with (go_at_call 131; refine (there_yes _ _ h1 h2).mono ?_; rintro e w' ⟨rfl, rfl⟩)
      go_ret2
      exact ⟨rfl, rfl⟩
    · have hq : (n : Int) < p := h'.resolve_left hp
      clear h'
      go_enter Tryz.func125, Tryz.ntmps125
      go_wp2_with (go_at_call 131; refine (there_yes _ _ h1 h2).mono ?_; rintro e w' ⟨rfl, rfl⟩)
      go_ret2
      exact ⟨rfl, rfl⟩
  · clear h
    go_enter Tryz.func125, Tryz.ntmps125
    go_wp2_with (go_at_call 131; refine (there_no _ _ hx).mono ?_; rintro e w' ⟨rfl, rfl⟩)
    go_ret2
    exact ⟨rfl, rfl⟩
set_option maxHeartbeats 400000 in
theorem Get_short {A : Option Addr} {n c : Nat} (x p : Int) (w : World) (h1 : 1 ≤ x) (h2 : x ≤ 8) (h3 : 0 ≤ p) (h4 : p ≤ (n : Int)) (hn : n ≤ 9223372036854775807) (h : (n : Int) - p < x) :
    Calls Tryz.prog 125 #[.slice A n c, .int .i64 p, .int .i64 x] w fun e w' => e = .returned (.tuple #[.int .u64 0, .int .i64 2]) ∧ w = w' := by
  go_enter Tryz.func125, Tryz.ntmps125
  go_wp2_with (go_at_call 131; refine (there_yes _ _ h1 h2).mono ?_; rintro e w' ⟨rfl, rfl⟩)
  go_ret2
  exact ⟨rfl, rfl⟩
theorem or_step {v a j : Nat} (hv : v < 256 ^ j) (ha : a < 256) (hj : j < 8) : bits .or .u64 (v : Int) (IntKind.u64.wrap ((a : Int) * 2 ^ (8 * j))) = ((v + a * 256 ^ j : Nat) : Int) := by
  have hp : 256 ^ j * 256 ≤ 18446744073709551616 := by
    rw [← Nat.pow_succ]
    exact Nat.le_trans (Nat.pow_le_pow_right (by decide) (show j + 1 ≤ 8 by omega)) (by decide)
  have h1 : a * 256 ^ j < 256 ^ j * 256 := by rw [Nat.mul_comm]; exact Nat.mul_lt_mul_of_pos_left ha (Nat.pow_pos (by decide))
  have h2 : 256 ^ j ≤ 256 ^ j * 256 := Nat.le_mul_of_pos_right _ (by decide)
  rw [pow_shift, ← Int.natCast_mul, IntKind.wrap_u64, Int.emod_eq_of_lt (by omega) (by omega), u64_or_nat _ _ (by omega) (by omega), Nat.or_comm, nat_join (8 * j), Nat.add_comm]
  · rw [Nat.pow_mul]; exact Nat.mul_mod_left _ _
  · rw [Nat.pow_mul]; exact hv
set_option maxHeartbeats 1000000 in
theorem Get_ok {A : Option Addr} {n c B : Nat} {l : List UInt8} (k p : Nat) (w : World) (hb : RB w B A n c l) (h1 : 1 ≤ k) (h2 : k ≤ 8) (h : p + k ≤ n) :
    Calls Tryz.prog 125 #[.slice A n c, .int .i64 (p : Int), .int .i64 (k : Int)] w fun e w' => e = .returned (.tuple #[.int .u64 (Oct.le (Oct.cut l p k) : Int), .int .i64 0]) ∧ w = w' := by
  have hn := hb.lt
  have hl := hb.len
  obtain ⟨b, o, rfl, hbB, hc⟩ := hb.at_ (by omega)
  have HL := Lib.hid hl; clear hl
  clear hb
  go_enter Tryz.func125, Tryz.ntmps125
  go_wp2_with (go_at_call 131; refine (there_yes _ _ (by omega) (by omega)).mono ?_; rintro e w' ⟨rfl, rfl⟩)
  go_loop [8, 32] (fun v i => ∃ j : Nat, j ≤ k ∧ i = .int .i64 j ∧ v = .int .u64 (Oct.le (Oct.cut l p j) : Int)) (fun _ i => k - (intOf i).toNat)
  case atStart => exact ⟨0, Nat.zero_le _, rfl, by rw [Oct.cut_zero]; rfl⟩
  case round =>
    obtain ⟨j, hj, rfl, rfl⟩ := hrel
    by_cases hlt : j < k
    · have hcj := hc (p + j) (by omega)
      have hx := byte_lt (l.getD (p + j) 0)
      generalize hxe : l.getD (p + j) 0 = x at *
      have HX := Lib.hid hxe; clear hxe hc
      generalize hve : Oct.le (Oct.cut l p j) = v at *
      have HV := Lib.hid hve; clear hve
      go_wp2
      go_round
      case rel =>
        refine ⟨j + 1, by omega, by go_num, ?_⟩
        have hl := HL.out
        have h3 : v < 256 ^ j := by rw [← HV.out]; have := Oct.le_lt (Oct.cut l p j); rwa [Oct.cut_length _ _ _ (by omega)] at this
        rw [or_step h3 hx (by omega), Oct.cut_succ _ _ _ (by omega), Oct.le_snoc, Oct.cut_length _ _ _ (by omega), HX.out, HV.out]
      case measure => simp [intOf]; omega
    · obtain rfl : j = k := by omega
      clear hc
      go_wp2
      go_ret2
      exact ⟨rfl, rfl⟩
end Go.Proofs.YtmolmpgampmolaaGreat
