/-
  Texts joined: EntRule, EntName, TypRef, OctPut, OctGet, OctBits, OctRef, TypCode.
  Conditions: none.
-/
import Derived.Test.YtmolmpgampmolaaJ01
import Derived.Test.YtmolmpgampmolaaJ03
import Derived.Test.YtmolmpgampmolaaJ04
import Derived.Test.YtmolmpgampmolaaJ08
/-
  Walks: the small rules of layer 14.
  Conditions: none.
-/
namespace Go.Proofs.Ytmolmpgampmolaa
set_option linter.unusedVariables false
set_option linter.unusedSimpArgs false
open Go.RowKit
set_option maxRecDepth 100000 in
set_option maxHeartbeats 4000000 in
theorem flags_any (e : Ent.En) (A : Option Addr) (n c : Nat) (w : World) : Calls Try.prog 53 #[enV e A n c] w fun x w' => x = .returned (.bool (Ent.flagsB e)) ∧ Below w.heap.size w w' := by
  obtain ⟨ix, sb, nm, ty, ac, mp, st, mx, lo, hi, df⟩ := e
  unfold enV
  dsimp only
  by_cases h1 : ac = 1
  · subst h1
    cases mp <;> cases st
    all_goals
      go_enter Try.func53, Try.ntmps53
      go_wp2_with fail
      go_ret
      exact ⟨rfl, alloc_one _ _⟩
  by_cases h2 : ac = 2
  · subst h2
    cases st
    all_goals
      go_enter Try.func53, Try.ntmps53
      go_wp2_with fail
      go_ret
      exact ⟨rfl, alloc_one _ _⟩
  by_cases h3 : ac = 3
  · subst h3
    go_enter Try.func53, Try.ntmps53
    go_wp2_with fail
    go_ret
    exact ⟨rfl, alloc_one _ _⟩
  by_cases h4 : ac = 4
  · subst h4
    go_enter Try.func53, Try.ntmps53
    go_wp2_with fail
    go_ret
    exact ⟨rfl, alloc_one _ _⟩
  have e1 : (ac == 1) = false := beq_false_of_ne h1
  have e2 : (ac == 2) = false := beq_false_of_ne h2
  have e3 : (ac == 3) = false := beq_false_of_ne h3
  have e4 : (ac == 4) = false := beq_false_of_ne h4
  have hv : Ent.flagsB ⟨ix, sb, nm, ty, ac, mp, st, mx, lo, hi, df⟩ = false := by unfold Ent.flagsB; rw [if_neg h1, if_neg h2]; simp [h3, h4]
  rw [hv]
  clear hv h1 h2 h3 h4
  go_enter Try.func53, Try.ntmps53
  go_wp2_with fail
  go_ret
  exact ⟨rfl, alloc_one _ _⟩
set_option maxRecDepth 100000 in
set_option maxHeartbeats 4000000 in
theorem numbered_any (e : Ent.En) (A : Option Addr) (n c : Nat) (l h : Int) (w : World) : Calls Try.prog 54 #[enV e A n c, .int .i64 l, .int .i64 h] w fun x w' => x = .returned (.bool (Ent.numberedB e l h)) ∧ Below w.heap.size w w' := by
  obtain ⟨ix, sb, nm, ty, ac, mp, st, mx, lo, hi, df⟩ := e
  unfold enV
  dsimp only
  by_cases h1 : mx = 0
  · by_cases h2 : l ≤ lo
    · by_cases h3 : lo ≤ hi
      · by_cases h4 : hi ≤ h
        all_goals
          go_enter Try.func54, Try.ntmps54
          go_wp2_with fail
          go_ret
          exact ⟨ret_bool (by rw [Bool.eq_iff_iff]; simp [Ent.numberedB] <;> omega), alloc_one _ _⟩
      · go_enter Try.func54, Try.ntmps54
        go_wp2_with fail
        go_ret
        exact ⟨ret_bool (by rw [Bool.eq_iff_iff]; simp [Ent.numberedB] <;> omega), alloc_one _ _⟩
    · go_enter Try.func54, Try.ntmps54
      go_wp2_with fail
      go_ret
      exact ⟨ret_bool (by rw [Bool.eq_iff_iff]; simp [Ent.numberedB] <;> omega), alloc_one _ _⟩
  · have e1 : (mx == 0) = false := beq_false_of_ne h1
    go_enter Try.func54, Try.ntmps54
    go_wp2_with fail
    go_ret
    exact ⟨ret_bool (by rw [Bool.eq_iff_iff]; simp [Ent.numberedB] <;> omega), alloc_one _ _⟩
set_option maxRecDepth 100000 in
set_option maxHeartbeats 4000000 in
theorem sized_any (e : Ent.En) (A : Option Addr) (n c : Nat) (w : World) : Calls Try.prog 55 #[enV e A n c] w fun x w' => x = .returned (.bool (Ent.sizedB e)) ∧ Below w.heap.size w w' := by
  obtain ⟨ix, sb, nm, ty, ac, mp, st, mx, lo, hi, df⟩ := e
  unfold enV
  dsimp only
  by_cases h1 : lo = 0
  · by_cases h2 : hi = 0
    · subst h1 h2
      by_cases h3 : 1 ≤ mx
      · by_cases h4 : mx ≤ 256
        · cases mp
          all_goals
            go_enter Try.func55, Try.ntmps55
            go_wp2_with fail
            go_ret
            exact ⟨ret_bool (by rw [Bool.eq_iff_iff]; simp [Ent.sizedB] <;> omega), alloc_one _ _⟩
        · go_enter Try.func55, Try.ntmps55
          go_wp2_with fail
          go_ret
          exact ⟨ret_bool (by rw [Bool.eq_iff_iff]; simp [Ent.sizedB] <;> omega), alloc_one _ _⟩
      · go_enter Try.func55, Try.ntmps55
        go_wp2_with fail
        go_ret
        exact ⟨ret_bool (by rw [Bool.eq_iff_iff]; simp [Ent.sizedB] <;> omega), alloc_one _ _⟩
    · have e1 : (hi == 0) = false := beq_false_of_ne h2
      subst h1
      go_enter Try.func55, Try.ntmps55
      go_wp2_with fail
      go_ret
      exact ⟨ret_bool (by rw [Bool.eq_iff_iff]; simp [Ent.sizedB] <;> omega), alloc_one _ _⟩
  · have e1 : (lo == 0) = false := beq_false_of_ne h1
    go_enter Try.func55, Try.ntmps55
    go_wp2_with fail
    go_ret
    exact ⟨ret_bool (by rw [Bool.eq_iff_iff]; simp [Ent.sizedB] <;> omega), alloc_one _ _⟩
end Go.Proofs.Ytmolmpgampmolaa
/-
  Walks: names of entries, program and reference.
  Conditions: none.
-/
namespace Go.Proofs.Ytmolmpgampmolaa
set_option linter.unusedVariables false
set_option linter.unusedSimpArgs false
open Go.RowKit
theorem getD_T (s : List UInt8) (k : Nat) (h : k < s.length) : s.drop k = s.getD k 0 :: s.drop (k + 1) := by
  rw [List.drop_eq_getElem_cons h, List.getD_eq_getElem?_getD, List.getElem?_eq_getElem h]
  rfl
theorem ent_byte_ne {c d : UInt8} {k : Int} (h : c ≠ d) (hk : (d.toNat : Int) = k) : ((c.toNat : Int) == k) = false := by
  rw [beq_eq_false_iff_ne]
  intro e
  exact h (UInt8.toNat_inj.1 (by omega))
theorem all_step {p : UInt8 → Bool} {s : List UInt8} {k : Nat} (h : k < s.length) : (s.drop k).all p = (p (s.getD k 0) && (s.drop (k + 1)).all p) := by rw [getD_T s k h, List.all_cons]
theorem eletter_any (c : UInt8) (w : World) : Calls Try.prog 69 #[.int .u8 (c.toNat : Int)] w fun e w' => e = .returned (.bool (Ent.low c)) ∧ w = w' := by
  have hc := byte_lt c
  by_cases h1 : 97 ≤ c.toNat
  all_goals
    go_enter Try.func69, Try.ntmps69
    go_wp2_with fail
    go_ret
    exact ⟨ret_bool (by rw [Bool.eq_iff_iff]; simp [Ent.low] <;> omega), rfl⟩
theorem einner_any (c : UInt8) (w : World) : Calls Try.prog 70 #[.int .u8 (c.toNat : Int)] w fun e w' => e = .returned (.bool (Ent.inner c)) ∧ w = w' := by
  have hc := byte_lt c
  have L := eletter_any c w
  generalize hl : Ent.low c = l at *
  replace L := Lib.hid L
  have HL := Lib.hid hl; clear hl
  cases l with
  | true =>
    go_enter Try.func70, Try.ntmps70
    go_wp2_with fail
    refine (L.out).mono ?_
    rintro e _ ⟨rfl, rfl⟩
    go_wp2_with fail
    go_ret
    exact ⟨ret_bool (by unfold Ent.inner; rw [HL.out]; rfl), rfl⟩
  | false =>
    by_cases h1 : 48 ≤ c.toNat
    · by_cases h2 : c.toNat ≤ 57
      · go_enter Try.func70, Try.ntmps70
        go_wp2_with fail
        refine (L.out).mono ?_
        rintro e _ ⟨rfl, rfl⟩
        go_wp2_with fail
        go_ret
        exact ⟨ret_bool (by unfold Ent.inner Ty.isD; rw [decide_eq_true ⟨h1, h2⟩]; simp), rfl⟩
      · by_cases h3 : c = 95
        · subst h3
          go_enter Try.func70, Try.ntmps70
          go_wp2_with fail
          refine (L.out).mono ?_
          rintro e _ ⟨rfl, rfl⟩
          go_wp2_with fail
          go_ret
          exact ⟨rfl, rfl⟩
        · have e3 := ent_byte_ne (k := 95) h3 rfl
          go_enter Try.func70, Try.ntmps70
          go_wp2_with fail
          refine (L.out).mono ?_
          rintro e _ ⟨rfl, rfl⟩
          go_wp2_with fail
          go_ret
          exact ⟨ret_bool (by unfold Ent.inner; rw [HL.out]; unfold Ty.isD; rw [decide_eq_false (by omega : ¬(48 ≤ c.toNat ∧ c.toNat ≤ 57)), beq_false_of_ne h3]; simp <;> omega), rfl⟩
    · have h3 : c ≠ 95 := by rintro rfl; exact h1 (by decide)
      have e3 := ent_byte_ne (k := 95) h3 rfl
      go_enter Try.func70, Try.ntmps70
      go_wp2_with fail
      refine (L.out).mono ?_
      rintro e _ ⟨rfl, rfl⟩
      go_wp2_with fail
      go_ret
      exact ⟨ret_bool (by unfold Ent.inner; rw [HL.out]; unfold Ty.isD; rw [decide_eq_false (by omega : ¬(48 ≤ c.toNat ∧ c.toNat ≤ 57)), beq_false_of_ne h3]; simp <;> omega), rfl⟩
theorem name_empty : Ent.nameB [] = false := rfl
theorem name_long {s : List UInt8} (h : 16 < s.length) : Ent.nameB s = false := by unfold Ent.nameB; rw [decide_eq_false (by omega)]; rfl
theorem name_first {c : UInt8} {r : List UInt8} (h : Ent.low c = false) : Ent.nameB (c :: r) = false := by unfold Ent.nameB; simp [h]
theorem name_rest {c : UInt8} {r : List UInt8} (h : Ent.low c = true) (hl : (c :: r).length ≤ 16) : Ent.nameB (c :: r) = (c :: r).all Ent.inner := by unfold Ent.nameB; rw [decide_eq_true ⟨by simp, hl⟩]; simp [h]
set_option maxRecDepth 100000 in
set_option maxHeartbeats 4000000 in
theorem Name_any (s : List UInt8) (w : World) (hs : s.length ≤ 9223372036854775807) : Calls Try.prog 51 #[.string (T s)] w fun e w' => e = .returned (.bool (Ent.nameB s)) ∧ w = w' := by
  have hT := T_size s
  cases s with
  | nil =>
    go_enter Try.func51, Try.ntmps51
    have h0 : T [] = (⟨#[]⟩ : ByteArray) := rfl
    go_wp2_with fail
    go_ret
    exact ⟨rfl, rfl⟩
  | cons c r =>
    have htl := T_toList (c :: r)
    have hne : ((c :: r : List UInt8) == []) = false := rfl
    by_cases hl : 16 < (c :: r).length
    · have HV := Lib.hid (name_long hl)
      generalize (c :: r : List UInt8) = s at *
      go_enter Try.func51, Try.ntmps51
      go_wp2_with fail
      go_ret
      exact ⟨by rw [HV.out]; rfl, rfl⟩
    have hat0 := fun w => run_T_at (c :: r) .i64 0 0 rfl (by simp) w
    rw [show (c :: r).getD 0 0 = c from rfl] at hat0
    have L := fun w => eletter_any c w
    cases hlo : Ent.low c with
    | false =>
      rw [hlo] at L
      have HV := Lib.hid (name_first (r := r) hlo)
      replace L := Lib.hid L
      clear hlo
      generalize (c :: r : List UInt8) = s at *
      go_enter Try.func51, Try.ntmps51
      go_wp2_with fail
      refine (L.out _).mono ?_
      rintro e _ ⟨rfl, rfl⟩
      go_wp2_with fail
      go_ret
      exact ⟨by rw [HV.out]; rfl, rfl⟩
    | true =>
      rw [hlo] at L
      have HV : Hid (Ent.nameB (c :: r) = ((c :: r).drop 0).all Ent.inner) := Lib.hid (by rw [List.drop_zero]; exact name_rest hlo (by omega))
      replace L := Lib.hid L
      clear hlo
      have hpos : 0 < (c :: r).length := by simp
      generalize (c :: r : List UInt8) = s at *
      generalize Ent.nameB s = res at *
      go_enter Try.func51, Try.ntmps51
      go_wp2_with fail
      refine (L.out _).mono ?_
      rintro e w ⟨rfl, rfl⟩
      go_wp2_with fail
      go_loop [2, 19] (fun x v => x = .bool false ∧ ∃ k : Nat, k ≤ s.length ∧ v = .int .i64 k ∧ Hid (res = (s.drop k).all Ent.inner)) (fun _ v => s.length - (intOf v).toNat)
      case atStart => exact ⟨rfl, 0, by omega, rfl, HV⟩
      case round =>
        obtain ⟨rfl, k, hk, rfl, hq⟩ := hrel
        by_cases hlt : k < s.length
        · have hat := fun w => run_T_at s .i64 k k rfl hlt w
          have hst := hq.out
          rw [all_step hlt] at hst
          have I := fun w => einner_any (s.getD k 0) w
          clear hq
          generalize s.getD k 0 = d at *
          cases hi : Ent.inner d with
          | true =>
            rw [hi] at I hst
            rw [Bool.true_and] at hst
            have HQ := Lib.hid hst
            replace I := Lib.hid I
            clear hst hi
            go_wp2_with fail
            refine (I.out _).mono ?_
            rintro e w ⟨rfl, rfl⟩
            go_wp2_with fail
            go_round
            case rel => exact ⟨rfl, k + 1, by omega, by go_num, HQ⟩
            case measure => simp [intOf] <;> omega
          | false =>
            rw [hi] at I hst
            rw [Bool.false_and] at hst
            have HQ := Lib.hid hst
            replace I := Lib.hid I
            clear hst hi
            go_wp2_with fail
            refine (I.out _).mono ?_
            rintro e w ⟨rfl, rfl⟩
            go_wp2_with fail
            go_ret
            exact ⟨by rw [HQ.out]; rfl, rfl⟩
        · have HQ : Hid (res = true) := Lib.hid (by rw [hq.out, List.drop_of_length_le (by omega)]; rfl)
          clear hq
          obtain rfl : k = s.length := by omega
          go_wp2_with fail
          go_ret
          exact ⟨by rw [HQ.out]; rfl, rfl⟩
end Go.Proofs.Ytmolmpgampmolaa
/-
  Not of this seat.
  Conditions: none.
-/
/-
  Walks: octet.there, octet.Put.
  Conditions: none.
-/
namespace Go.Proofs.Ytmolmpgampmolaa
set_option linter.unusedVariables false
set_option linter.unusedSimpArgs false
open Go.RowKit
theorem there_yes (x : Int) (w : World) (h1 : 1 ≤ x) (h2 : x ≤ 8) : Calls Try.prog 82 #[.int .i64 x] w fun e w' => e = .returned (.bool true) ∧ w = w' := by
  go_enter Try.func82, Try.ntmps82
  go_wp2
  go_ret
  exact ⟨by simp [h2], rfl⟩
theorem there_no (x : Int) (w : World) (h : ¬ (1 ≤ x ∧ x ≤ 8)) : Calls Try.prog 82 #[.int .i64 x] w fun e w' => e = .returned (.bool false) ∧ w = w' := by
  by_cases h1 : 1 ≤ x
  · have h2 : ¬ x ≤ 8 := fun h2 => h ⟨h1, h2⟩
    clear h
    go_enter Try.func82, Try.ntmps82
    go_wp2
    all_goals
      go_ret
      exact ⟨by simp <;> omega, rfl⟩
  · clear h
    go_enter Try.func82, Try.ntmps82
    go_wp2
    all_goals
      go_ret
      exact ⟨by simp <;> omega, rfl⟩

set_option maxHeartbeats 400000 in
theorem Put_arg {A : Option Addr} {n c : Nat} (x m : Int) (w : World) (h : ¬ (1 ≤ x ∧ x ≤ 8)) :
    Calls Try.prog 76 #[.slice A n c, .int .i64 x, .int .u64 m] w fun e w' => e = .returned (.tuple #[.slice none 0 0, .int .i64 1]) ∧ w = w' := by
  go_enter Try.func76, Try.ntmps76
  go_wp2_with (go_at_call 82; refine (there_no _ _ h).mono ?_; rintro e w' ⟨rfl, rfl⟩)
  go_ret2
  exact ⟨rfl, rfl⟩

theorem pow_shift (k : Nat) : (2 : Int) ^ (8 * k) = ((256 ^ k : Nat) : Int) := by
  rw [Int.pow_mul]; simp
theorem byte_shift (m j : Nat) : ((m : Int) / 2 ^ (8 * j)) % 256 = ((UInt8.ofNat (m / 256 ^ j)).toNat : Int) := by
  rw [pow_shift, ← Int.natCast_ediv, UInt8.toNat_ofNat']
  simp
set_option maxHeartbeats 400000 in
theorem Put_range {A : Option Addr} {n c : Nat} (k m : Nat) (w : World) (h1 : 1 ≤ k) (h2 : k ≤ 8) (hm : m < 18446744073709551616) (h : 256 ^ k ≤ m) :
    Calls Try.prog 76 #[.slice A n c, .int .i64 (k : Int), .int .u64 (m : Int)] w fun e w' => e = .returned (.tuple #[.slice none 0 0, .int .i64 9]) ∧ w = w' := by
  have hk : k < 8 := by
    rcases Nat.lt_or_ge k 8 with hk | hk
    · exact hk
    · obtain rfl : k = 8 := by omega
      omega
  have ht : ((m : Int) / 2 ^ (8 * k) != 0) = true := by
    rw [pow_shift, bne_iff_ne, ← Int.natCast_ediv]
    have := Nat.div_pos h (Nat.pow_pos (by decide : 0 < 256))
    omega
  clear h
  go_enter Try.func76, Try.ntmps76
  go_wp2_with (first | (go_at_call 82; refine (there_yes _ _ (by omega) (by omega)).mono ?_; rintro e w' ⟨rfl, rfl⟩) | fail)
  go_ret2
  exact ⟨rfl, rfl⟩

set_option maxHeartbeats 1000000 in
theorem Put_ok {A : Option Addr} {n c B : Nat} {l : List UInt8} (k m : Nat) (w : World) (hb : RB w B A n c l) (hn : n < 140737488355000) (hB : B ≤ w.heap.size) (h1 : 1 ≤ k) (h2 : k ≤ 8) (hm : m < 18446744073709551616) (h : m < 256 ^ k) :
    Calls Try.prog 76 #[.slice A n c, .int .i64 (k : Int), .int .u64 (m : Int)] w fun e w' =>
      ∃ A1 c1, e = .returned (.tuple #[.slice A1 (n + k) c1, .int .i64 0]) ∧ OB w' w.heap.size A1 (n + k) c1 (l ++ Oct.lb k m) ∧ Below w.heap.size w w' := by
  have ht : ((m : Int) / 2 ^ (8 * k) != 0) = false := by
    rw [pow_shift, bne_eq_false_iff_eq, ← Int.natCast_ediv, Nat.div_eq_of_lt h]; rfl
  clear h
  by_cases hk : k < 8
  all_goals
    go_enter Try.func76, Try.ntmps76
    go_wp2_with (first
      | (go_at_call 82; refine (there_yes _ _ (by omega) (by omega)).mono ?_; rintro e w' ⟨rfl, rfl⟩)
      | (at_make; refine wpList_mkb etb rfl (.tmp 26) (.tmp 30) rfl .i64 .i64 n (n + k) rfl rfl (by omega) (by omega) w.heap.size (Nat.le_refl _) ?_; intro w1 hw1 hb1 hs1)
      | (refine wpList_cpb etb rfl (.tmp 32) (.tmp 33) rfl rfl rfl w.heap.size hw1 (hb.below (hb1.mono hB)) (Nat.le_refl _) ?_; intro w2 hw2 hg2 hs2; have hb2 := grown_below hg2 hw1.lt (by omega))
      | fail)
    rw [List.drop_of_length_le (by simp), List.append_nil] at hw2
    go_loopw [8, 36] (fun v i wr => ∃ (j : Nat) (A1 : Option Addr) (c1 : Nat), j ≤ k ∧ i = .int .i64 j ∧ v = .slice A1 (n + j) c1 ∧ OB wr w.heap.size A1 (n + j) c1 (l ++ Oct.lb j m) ∧ Below w.heap.size w wr) (fun _ i _ => k - (intOf i).toNat)
    case atStart => exact ⟨0, _, _, Nat.zero_le _, rfl, rfl, by simpa [Oct.lb] using hw2, hb1.trans hb2⟩
    case round =>
      obtain ⟨j, A1, c1, hj, rfl, rfl, hown, hbel⟩ := hrel
      by_cases hlt : j < k
      · go_wp2_with (at_builtin; refine wpList_appb_one etb rfl (.tmp 39) (.tmp 46) rfl rfl rfl w.heap.size hown (UInt8.ofNat (m / 256 ^ j)) (byte_shift m j) (by omega) hbel.size ?_; intro A2 c2 w3 h3 hb3 _ _)
        go_roundw
        case rel => exact ⟨j + 1, A2, c2, by omega, by go_num, rfl, by rw [Oct.lb, ← List.append_assoc]; exact h3, hbel.trans hb3⟩
        case measure => simp [intOf]; omega
      · obtain rfl : j = k := by omega
        go_wp2
        go_ret2
        exact ⟨_, _, rfl, hown, hbel⟩
end Go.Proofs.Ytmolmpgampmolaa
/-
  Walks: octet.Get.
  Conditions: none.
-/
namespace Go.Proofs.Ytmolmpgampmolaa
set_option linter.unusedVariables false
set_option linter.unusedSimpArgs false
open Go.RowKit
set_option maxHeartbeats 400000 in
theorem Get_arg {A : Option Addr} {n c : Nat} (x p : Int) (w : World) (h : ¬ (1 ≤ x ∧ x ≤ 8) ∨ p < 0 ∨ (n : Int) < p) :
    Calls Try.prog 79 #[.slice A n c, .int .i64 p, .int .i64 x] w fun e w' => e = .returned (.tuple #[.int .u64 0, .int .i64 1]) ∧ w = w' := by
  by_cases hx : 1 ≤ x ∧ x ≤ 8
  · have h' : p < 0 ∨ (n : Int) < p := h.resolve_left (fun h => h hx)
    clear h
    obtain ⟨h1, h2⟩ := hx
    by_cases hp : p < 0
    · go_enter Try.func79, Try.ntmps79
      go_wp2_with (go_at_call 82; refine (there_yes _ _ h1 h2).mono ?_; rintro e w' ⟨rfl, rfl⟩)
      go_ret2
      exact ⟨rfl, rfl⟩
    · have hq : (n : Int) < p := h'.resolve_left hp
      clear h'
      go_enter Try.func79, Try.ntmps79
      go_wp2_with (go_at_call 82; refine (there_yes _ _ h1 h2).mono ?_; rintro e w' ⟨rfl, rfl⟩)
      go_ret2
      exact ⟨rfl, rfl⟩
  · clear h
    go_enter Try.func79, Try.ntmps79
    go_wp2_with (go_at_call 82; refine (there_no _ _ hx).mono ?_; rintro e w' ⟨rfl, rfl⟩)
    go_ret2
    exact ⟨rfl, rfl⟩
set_option maxHeartbeats 400000 in
theorem Get_short {A : Option Addr} {n c : Nat} (x p : Int) (w : World) (h1 : 1 ≤ x) (h2 : x ≤ 8) (h3 : 0 ≤ p) (h4 : p ≤ (n : Int)) (hn : n ≤ 9223372036854775807) (h : (n : Int) - p < x) :
    Calls Try.prog 79 #[.slice A n c, .int .i64 p, .int .i64 x] w fun e w' => e = .returned (.tuple #[.int .u64 0, .int .i64 2]) ∧ w = w' := by
  go_enter Try.func79, Try.ntmps79
  go_wp2_with (go_at_call 82; refine (there_yes _ _ h1 h2).mono ?_; rintro e w' ⟨rfl, rfl⟩)
  go_ret2
  exact ⟨rfl, rfl⟩
theorem or_step {v a j : Nat} (hv : v < 256 ^ j) (ha : a < 256) (hj : j < 8) : bits .or .u64 (v : Int) (IntKind.u64.wrap ((a : Int) * 2 ^ (8 * j))) = ((v + a * 256 ^ j : Nat) : Int) := by
  have hp : 256 ^ j * 256 ≤ 18446744073709551616 := by
    rw [← Nat.pow_succ]
    exact Nat.le_trans (Nat.pow_le_pow_right (by decide) (show j + 1 ≤ 8 by omega)) (by decide)
  have h1 : a * 256 ^ j < 256 ^ j * 256 := by rw [Nat.mul_comm]; exact Nat.mul_lt_mul_of_pos_left ha (Nat.pow_pos (by decide))
  have h2 : 256 ^ j ≤ 256 ^ j * 256 := Nat.le_mul_of_pos_right _ (by decide)
  rw [pow_shift, ← Int.natCast_mul, IntKind.wrap_u64, Int.emod_eq_of_lt (by omega) (by omega), u64_or_nat _ _ (by omega) (by omega), Nat.or_comm, nat_join (8 * j), Nat.add_comm]
  · rw [Nat.pow_mul]; exact Nat.mul_mod_left _ _
  · rw [Nat.pow_mul]; exact hv
set_option maxHeartbeats 1000000 in
theorem Get_ok {A : Option Addr} {n c B : Nat} {l : List UInt8} (k p : Nat) (w : World) (hb : RB w B A n c l) (h1 : 1 ≤ k) (h2 : k ≤ 8) (h : p + k ≤ n) :
    Calls Try.prog 79 #[.slice A n c, .int .i64 (p : Int), .int .i64 (k : Int)] w fun e w' => e = .returned (.tuple #[.int .u64 (Oct.le (Oct.cut l p k) : Int), .int .i64 0]) ∧ w = w' := by
  have hn := hb.lt
  have hl := hb.len
  obtain ⟨b, o, rfl, hbB, hc⟩ := hb.at_ (by omega)
  have HL := Lib.hid hl; clear hl
  clear hb
  go_enter Try.func79, Try.ntmps79
  go_wp2_with (go_at_call 82; refine (there_yes _ _ (by omega) (by omega)).mono ?_; rintro e w' ⟨rfl, rfl⟩)
  go_loop [8, 32] (fun v i => ∃ j : Nat, j ≤ k ∧ i = .int .i64 j ∧ v = .int .u64 (Oct.le (Oct.cut l p j) : Int)) (fun _ i => k - (intOf i).toNat)
  case atStart => exact ⟨0, Nat.zero_le _, rfl, by rw [Oct.cut_zero]; rfl⟩
  case round =>
    obtain ⟨j, hj, rfl, rfl⟩ := hrel
    by_cases hlt : j < k
    · have hcj := hc (p + j) (by omega)
      have hx := byte_lt (l.getD (p + j) 0)
      generalize hxe : l.getD (p + j) 0 = x at *
      have HX := Lib.hid hxe; clear hxe hc
      generalize hve : Oct.le (Oct.cut l p j) = v at *
      have HV := Lib.hid hve; clear hve
      go_wp2
      go_round
      case rel =>
        refine ⟨j + 1, by omega, by go_num, ?_⟩
        have hl := HL.out
        have h3 : v < 256 ^ j := by rw [← HV.out]; have := Oct.le_lt (Oct.cut l p j); rwa [Oct.cut_length _ _ _ (by omega)] at this
        rw [or_step h3 hx (by omega), Oct.cut_succ _ _ _ (by omega), Oct.le_snoc, Oct.cut_length _ _ _ (by omega), HX.out, HV.out]
      case measure => simp [intOf]; omega
    · obtain rfl : j = k := by omega
      clear hc
      go_wp2
      go_ret2
      exact ⟨rfl, rfl⟩
end Go.Proofs.Ytmolmpgampmolaa
/-
  Walks: octet.mask, extend, Low, Sign, PutInt, GetInt; Put and Get whole.
  Conditions: none.
-/
namespace Go.Proofs.Ytmolmpgampmolaa
set_option linter.unusedVariables false
set_option linter.unusedSimpArgs false
open Go.RowKit
theorem and_mask (n b : Nat) (hn : n < 18446744073709551616) (hb : b < 64) : bits .and .u64 (n : Int) (IntKind.u64.wrap (IntKind.u64.wrap ((2 : Int) ^ b) - 1)) = ((n % 2 ^ b : Nat) : Int) := by
  have hp : 0 < 2 ^ b := Nat.pow_pos (by decide)
  have hlt : 2 ^ b < 2 ^ 64 := Nat.pow_lt_pow_right (by decide) hb
  have e : IntKind.u64.wrap (IntKind.u64.wrap ((2 : Int) ^ b) - 1) = ((2 ^ b - 1 : Nat) : Int) := by
    rw [IntKind.wrap_u64, IntKind.wrap_u64, Oct.pow_int]; omega
  rw [e, u64_and_nat _ _ hn (by omega), Nat.and_two_pow_sub_one_eq_mod]
set_option maxHeartbeats 400000 in
theorem mask_any (n b : Nat) {x : Int} (hx : x = (b : Int)) (w : World) (hn : n < 18446744073709551616) (h1 : 1 ≤ b) (h2 : b ≤ 64) :
    Calls Try.prog 83 #[.int .u64 (n : Int), .int .i64 x] w fun e w' => e = .returned (.int .u64 ((n % 2 ^ b : Nat) : Int)) ∧ w = w' := by
  subst hx
  by_cases hb : b = 64
  · subst hb
    go_enter Try.func83, Try.ntmps83
    go_wp2
    go_ret
    exact ⟨ret_int (by rw [Nat.mod_eq_of_lt (by simpa using hn)]), rfl⟩
  · have ht : ((b : Int) == 64) = false := by rw [beq_eq_false_iff_ne]; omega
    have hlt : b < 64 := by omega
    clear hb
    go_enter Try.func83, Try.ntmps83
    go_wp2
    go_ret
    show _ ∧ _
    exact ⟨ret_int (and_mask n b hn hlt), rfl⟩
set_option maxHeartbeats 400000 in
theorem extend_any (n b : Nat) {x : Int} (hx : x = (b : Int)) (w : World) (hn : n < 18446744073709551616) (h1 : 1 ≤ b) (h2 : b ≤ 64) :
    Calls Try.prog 84 #[.int .u64 (n : Int), .int .i64 x] w fun e w' => e = .returned (.int .i64 (Oct.sgn n b)) ∧ w = w' := by
  subst hx
  go_enter Try.func84, Try.ntmps84
  go_wp2
  go_ret
  exact ⟨ret_int (by unfold wrap64; rw [IntKind.wrap_u64]; exact Oct.extend_val n b h1 h2), rfl⟩

set_option maxHeartbeats 400000 in
theorem Put_any {A : Option Addr} {n c B : Nat} {l : List UInt8} (x : Int) (m : Nat) (w : World) (hb : RB w B A n c l) (hn : n < 140737488355000) (hB : B ≤ w.heap.size) (hm : m < 18446744073709551616) :
    Calls Try.prog 76 #[.slice A n c, .int .i64 x, .int .u64 (m : Int)] w fun e w' =>
      ∃ A1 c1, e = .returned (.tuple #[.slice A1 (Oct.putS l x m).1.length c1, .int .i64 (Oct.putS l x m).2]) ∧ OB w' w.heap.size A1 (Oct.putS l x m).1.length c1 (Oct.putS l x m).1 ∧ Below w.heap.size w w' := by
  unfold Oct.putS
  by_cases h : 1 ≤ x ∧ x ≤ 8
  · obtain ⟨k, rfl⟩ := Int.eq_ofNat_of_zero_le (show 0 ≤ x by omega)
    rw [if_pos h]
    by_cases hk : 256 ^ k ≤ m
    · have e : 256 ^ ((k : Nat) : Int).toNat ≤ m := hk
      rw [if_pos e]
      exact (Put_range k m w (by omega) (by omega) hm hk).mono fun e w' ⟨he, hw⟩ => by subst hw; exact ⟨none, 0, he, OB.none_ _ _, Below.refl _ _⟩
    · have e : ¬ 256 ^ ((k : Nat) : Int).toNat ≤ m := hk
      have hl : (l ++ Oct.lb k m).length = n + k := by rw [List.length_append, Oct.lb_length, hb.len]
      rw [if_neg e]
      refine (Put_ok k m w hb hn hB (by omega) (by omega) hm (by omega)).mono fun e w' ⟨A1, c1, he, h1, h2⟩ => ⟨A1, c1, ?_, ?_, h2⟩
      · show e = .returned (.tuple #[.slice A1 (l ++ Oct.lb k m).length c1, _])
        rw [hl]; exact he
      · show OB w' _ A1 (l ++ Oct.lb k m).length c1 (l ++ Oct.lb k m)
        rw [hl]; exact h1
  · rw [if_neg h]
    exact (Put_arg x m w h).mono fun e w' ⟨he, hw⟩ => by subst hw; exact ⟨none, 0, he, OB.none_ _ _, Below.refl _ _⟩
set_option maxHeartbeats 800000 in
theorem PutInt_any {A : Option Addr} {n c B : Nat} {l : List UInt8} (x z : Int) (w : World) (hb : RB w B A n c l) (hn : n < 140737488355000) (hB : B ≤ w.heap.size) (hz1 : -9223372036854775808 ≤ z) (hz2 : z ≤ 9223372036854775807) :
    Calls Try.prog 74 #[.slice A n c, .int .i64 x, .int .i64 z] w fun e w' =>
      ∃ A1 c1, e = .returned (.tuple #[.slice A1 (Oct.putIntS l x z).1.length c1, .int .i64 (Oct.putIntS l x z).2]) ∧ OB w' w.heap.size A1 (Oct.putIntS l x z).1.length c1 (Oct.putIntS l x z).1 ∧ Below w.heap.size w w' := by
  unfold Oct.putIntS
  by_cases h : 1 ≤ x ∧ x ≤ 8
  · obtain ⟨k, rfl⟩ := Int.eq_ofNat_of_zero_le (show 0 ≤ x by omega)
    rw [if_pos h]
    obtain ⟨h1, h2⟩ := h
    obtain ⟨u, hu⟩ := Int.eq_ofNat_of_zero_le (Int.emod_nonneg z (show (18446744073709551616 : Int) ≠ 0 by decide))
    have hu2 : u < 18446744073709551616 := by have := Int.emod_lt_of_pos z (show (0 : Int) < 18446744073709551616 by decide); omega
    have huN : (z % 18446744073709551616).toNat = u := by omega
    rw [huN, Int.toNat_natCast]
    have hsg : Oct.sgn (u % 2 ^ (8 * k)) (8 * k) = z ↔ -((2 ^ (8 * k - 1) : Nat) : Int) ≤ z ∧ z < ((2 ^ (8 * k - 1) : Nat) : Int) := by
      rw [Oct.sgn_mod]
      have hdvd : ((2 ^ (8 * k) : Nat) : Int) ∣ 18446744073709551616 := by
        rw [show (18446744073709551616 : Int) = ((2 ^ 64 : Nat) : Int) by decide]
        exact Int.natCast_dvd_natCast.2 (Nat.pow_dvd_pow 2 (by omega))
      have hum : u % 2 ^ (8 * k) = (z % ((2 ^ (8 * k) : Nat) : Int)).toNat := by
        have : ((u % 2 ^ (8 * k) : Nat) : Int) = z % ((2 ^ (8 * k) : Nat) : Int) := by
          rw [Int.natCast_emod, ← hu, Int.emod_emod_of_dvd _ hdvd]
        omega
      constructor
      · intro e
        rw [← e]
        exact Oct.sgn_bounds u (8 * k) (by omega)
      · rintro ⟨g1, g2⟩
        rw [← Oct.sgn_mod, hum]
        exact Oct.sgn_of z (8 * k) (by omega) g1 g2
    have hmk : u % 2 ^ (8 * k) < 18446744073709551616 := Nat.lt_of_le_of_lt (Nat.mod_le _ _) hu2
    have hmlt : u % 2 ^ (8 * k) < 256 ^ k := by
      rw [show (256 : Nat) = 2 ^ 8 by decide, ← Nat.pow_mul]
      exact Nat.mod_lt _ (Nat.pow_pos (by decide))
    have hlb : Oct.lb k (u % 2 ^ (8 * k)) = Oct.lb k u := by
      have := Oct.lb_mod k u k (Nat.le_refl _)
      rwa [show (256 : Nat) = 2 ^ 8 by decide, ← Nat.pow_mul] at this
    have hl : (l ++ Oct.lb k u).length = n + k := by rw [List.length_append, Oct.lb_length, hb.len]
    by_cases hr : Oct.sgn (u % 2 ^ (8 * k)) (8 * k) = z
    · rw [if_pos (hsg.1 hr)]
      dsimp only
      rw [hl]
      have ht : (Oct.sgn (u % 2 ^ (8 * k)) (8 * k) != z) = false := by rw [hr]; simp
      have HU := Lib.hid hu; have HLB := Lib.hid hlb
      have hwu : IntKind.u64.wrap z = (u : Int) := by rw [IntKind.wrap_u64]; exact hu
      clear hsg hu huN hlb hl hr
      go_enter Try.func74, Try.ntmps74
      go_wp2_with fail
      refine (there_yes _ _ (by omega) (by omega)).mono ?_
      rintro e w1 ⟨rfl, rfl⟩
      go_wp2_with fail
      refine (mask_any u (8 * k) (by omega) _ hu2 (by omega) (by omega)).mono ?_
      rintro e w1 ⟨rfl, rfl⟩
      generalize u % 2 ^ (8 * k) = v at *
      go_wp2_with fail
      refine (extend_any v (8 * k) (by omega) _ hmk (by omega) (by omega)).mono ?_
      rintro e w1 ⟨rfl, rfl⟩
      generalize Oct.sgn v (8 * k) = y at *
      go_wp2_with fail
      refine (Put_ok k v _ hb hn hB (by omega) (by omega) hmk hmlt).mono ?_
      rintro e w2 ⟨A2, c2, rfl, h2, hb2⟩
      go_wp2_with fail
      go_ret2
      exact ⟨A2, c2, rfl, by rw [← HLB.out]; exact h2, hb2⟩
    · rw [if_neg (fun g => hr (hsg.2 g))]
      have ht : (Oct.sgn (u % 2 ^ (8 * k)) (8 * k) != z) = true := by rw [bne_iff_ne]; exact hr
      have hwu : IntKind.u64.wrap z = (u : Int) := by rw [IntKind.wrap_u64]; exact hu
      clear hsg hlb hl hr hu huN
      go_enter Try.func74, Try.ntmps74
      go_wp2_with fail
      refine (there_yes _ _ (by omega) (by omega)).mono ?_
      rintro e w1 ⟨rfl, rfl⟩
      go_wp2_with fail
      refine (mask_any u (8 * k) (by omega) _ hu2 (by omega) (by omega)).mono ?_
      rintro e w1 ⟨rfl, rfl⟩
      generalize u % 2 ^ (8 * k) = v at *
      go_wp2_with fail
      refine (extend_any v (8 * k) (by omega) _ hmk (by omega) (by omega)).mono ?_
      rintro e w1 ⟨rfl, rfl⟩
      generalize Oct.sgn v (8 * k) = y at *
      go_wp2_with fail
      go_ret2
      exact ⟨none, 0, rfl, OB.none_ _ _, Below.refl _ _⟩
  · rw [if_neg h]
    go_enter Try.func74, Try.ntmps74
    go_wp2_with fail
    refine (there_no _ _ h).mono ?_
    rintro e w1 ⟨rfl, rfl⟩
    go_wp2_with fail
    go_ret2
    exact ⟨none, 0, rfl, OB.none_ _ _, Below.refl _ _⟩

set_option maxHeartbeats 400000 in
theorem Get_any {A : Option Addr} {n c B : Nat} {l : List UInt8} (p x : Int) (w : World) (hb : RB w B A n c l) :
    Calls Try.prog 79 #[.slice A n c, .int .i64 p, .int .i64 x] w fun e w' => e = .returned (.tuple #[.int .u64 ((Oct.getS l p x).1 : Int), .int .i64 (Oct.getS l p x).2]) ∧ w = w' := by
  have hl := hb.len
  have hn := hb.lt
  unfold Oct.getS
  by_cases h : 1 ≤ x ∧ x ≤ 8 ∧ 0 ≤ p ∧ p ≤ (l.length : Int)
  · rw [if_pos h]
    obtain ⟨h1, h2, h3, h4⟩ := h
    by_cases hs : (l.length : Int) - p < x
    · rw [if_pos hs]
      exact Get_short x p w h1 h2 h3 (by omega) hn (by omega)
    · rw [if_neg hs]
      obtain ⟨k, rfl⟩ := Int.eq_ofNat_of_zero_le (show 0 ≤ x by omega)
      obtain ⟨q, rfl⟩ := Int.eq_ofNat_of_zero_le h3
      exact Get_ok k q w hb (by omega) (by omega) (by omega)
  · rw [if_neg h]
    exact Get_arg x p w (by rw [← hl]; omega)
theorem getS_lt (l : List UInt8) (p x : Int) : (Oct.getS l p x).1 < 18446744073709551616 := by
  unfold Oct.getS
  split
  · rename_i h
    split
    · decide
    · have h1 := Oct.le_lt (Oct.cut l p.toNat x.toNat)
      rw [Oct.cut_length _ _ _ (by omega)] at h1
      exact Nat.lt_of_lt_of_le h1 (Nat.le_trans (Nat.pow_le_pow_right (by decide) (show x.toNat ≤ 8 by omega)) (by decide))
  · decide
theorem getS_ok {l : List UInt8} {p x : Int} (h : (Oct.getS l p x).2 = 0) : 1 ≤ x ∧ x ≤ 8 := by
  unfold Oct.getS at h
  split at h
  · rename_i h1; exact ⟨h1.1, h1.2.1⟩
  · simp at h
set_option maxHeartbeats 400000 in
theorem GetInt_any {A : Option Addr} {n c B : Nat} {l : List UInt8} (p x : Int) (w : World) (hb : RB w B A n c l) :
    Calls Try.prog 78 #[.slice A n c, .int .i64 p, .int .i64 x] w fun e w' => e = .returned (.tuple #[.int .i64 (Oct.getIntS l p x).1, .int .i64 (Oct.getIntS l p x).2]) ∧ w = w' := by
  have hlt := getS_lt l p x
  have hok := getS_ok (l := l) (p := p) (x := x)
  have hg := Get_any p x w hb
  unfold Oct.getIntS
  generalize Oct.getS l p x = y at *
  obtain ⟨y, ye⟩ := y
  dsimp only at *
  have HG := Lib.hid hg; clear hg
  by_cases he : ye = 0
  · rw [if_pos he]
    obtain ⟨h1, h2⟩ := hok he
    clear hok
    subst he
    go_enter Try.func78, Try.ntmps78
    go_wp2_with fail
    refine HG.out.mono ?_
    rintro e w1 ⟨rfl, rfl⟩
    go_wp2_with fail
    refine (extend_any y (8 * x.toNat) (by omega) _ hlt (by omega) (by omega)).mono ?_
    rintro e w1 ⟨rfl, rfl⟩
    go_wp2_with fail
    go_ret2
    exact ⟨rfl, rfl⟩
  · rw [if_neg he]
    clear hok
    have ht : (ye != 0) = true := by rw [bne_iff_ne]; exact he
    clear he
    go_enter Try.func78, Try.ntmps78
    go_wp2_with fail
    refine HG.out.mono ?_
    rintro e w1 ⟨rfl, rfl⟩
    go_wp2_with fail
    go_ret2
    exact ⟨rfl, rfl⟩
end Go.Proofs.Ytmolmpgampmolaa
/-
  Walks: the reference's Low, Sign, half, PutInt, Get, GetInt.
  Conditions: none.
-/
namespace Go.Proofs.Ytmolmpgampmolaa
set_option linter.unusedVariables false
set_option linter.unusedSimpArgs false
open Go.RowKit


end Go.Proofs.Ytmolmpgampmolaa
/-
  Walks: types.Encode, Decode, and the reference's.
  Conditions: none.
-/
namespace Go.Proofs.Ytmolmpgampmolaa
set_option linter.unusedVariables false
set_option linter.unusedSimpArgs false
open Go.RowKit
/-- Bytes and a code are answered; the bytes are the call's own. -/
def BP (p : List UInt8 × Int) (w : World) (e : Ending) (w' : World) : Prop := ∃ A1 c1, e = .returned (.tuple #[.slice A1 p.1.length c1, .int .i64 p.2]) ∧ OB w' w.heap.size A1 p.1.length c1 p.1 ∧ Below w.heap.size w w'
theorem bp_bad {p : List UInt8 × Int} {w w' : World} {x : Int} (h : p = ([], x)) (hb : Below w.heap.size w w') : BP p w (.returned (.tuple #[.slice none 0 0, .int .i64 x])) w' := by
  subst h
  exact ⟨none, 0, rfl, OB.none_ _ _, hb⟩
theorem bp_ok {p : List UInt8 × Int} {w w' : World} {A : Option Addr} {n c : Nat} {l : List UInt8} {x : Int} (h : p = (l, x)) (hn : l.length = n) (ho : OB w' w.heap.size A n c l) (hb : Below w.heap.size w w') : BP p w (.returned (.tuple #[.slice A n c, .int .i64 x])) w' := by
  subst h hn
  exact ⟨A, c, rfl, ho, hb⟩
theorem kd_num (t : Int) : ((Ty.kd t).bits = 0 ∧ (Ty.kd t).size = 0 ∧ (Ty.kd t).sgn = false) ∨ ((Ty.kd t).sgn = true ∧ (Ty.kd t).bits = 8 * (Ty.kd t).size ∧ 1 ≤ (Ty.kd t).size ∧ (Ty.kd t).size ≤ 8) ∨ ((Ty.kd t).sgn = false ∧ 1 ≤ (Ty.kd t).bits ∧ (Ty.kd t).bits ≤ 8 * (Ty.kd t).size ∧ 1 ≤ (Ty.kd t).size ∧ (Ty.kd t).size ≤ 4 ∧ ((Ty.kd t).bits = 8 * (Ty.kd t).size ∨ ((Ty.kd t).bits = 1 ∧ t = 1))) := by
  rcases Ty.kd_cases t with h | ⟨_, h⟩
  · rcases h with rfl | rfl | rfl | rfl | rfl | rfl | rfl | rfl | rfl | rfl | rfl <;> decide
  · rw [h]; exact .inl ⟨rfl, rfl, rfl⟩
theorem enc_type {t n : Int} (h : (Ty.limS t).2.2 = false) : Ty.encS t n = ([], 15) := by unfold Ty.encS; rw [if_pos h]
theorem enc_range {t n : Int} (h : (Ty.limS t).2.2 = true) (hr : n < (Ty.limS t).1 ∨ (Ty.limS t).2.1 < n) : Ty.encS t n = ([], 9) := by unfold Ty.encS; rw [if_neg (by rw [h]; decide), if_pos hr]
theorem enc_ok {t n : Int} (h : (Ty.limS t).2.2 = true) (hr : ¬ (n < (Ty.limS t).1 ∨ (Ty.limS t).2.1 < n)) : Ty.encS t n = (Oct.lb (Ty.kd t).size (n % 18446744073709551616).toNat, 0) := by unfold Ty.encS; rw [if_neg (by rw [h]; decide), if_neg hr]
theorem lim_ok {t : Int} (h : (Ty.limS t).2.2 = true) : ((Ty.kd t).sgn = true ∧ 1 ≤ (Ty.kd t).size ∧ (Ty.kd t).size ≤ 8 ∧ (Ty.limS t).1 = -((2 ^ (8 * (Ty.kd t).size - 1) : Nat) : Int) ∧ (Ty.limS t).2.1 = ((2 ^ (8 * (Ty.kd t).size - 1) : Nat) : Int) - 1) ∨
    ((Ty.kd t).sgn = false ∧ 1 ≤ (Ty.kd t).size ∧ (Ty.kd t).size ≤ 4 ∧ (Ty.limS t).1 = 0 ∧ (Ty.limS t).2.1 = ((2 ^ (Ty.kd t).bits : Nat) : Int) - 1 ∧ (Ty.kd t).bits ≤ 8 * (Ty.kd t).size) := by
  rcases kd_num t with ⟨h1, _⟩ | ⟨h1, h2, h3, h4⟩ | ⟨h1, h2, h3, h4, h5, _⟩
  · unfold Ty.limS at h; rw [if_pos h1] at h; cases h
  · left
    refine ⟨h1, h3, h4, ?_, ?_⟩ <;> (unfold Ty.limS; rw [if_neg (by omega), if_pos h1, h2])
  · right
    refine ⟨h1, h4, h5, ?_, ?_, h3⟩ <;> (unfold Ty.limS; rw [if_neg (by omega), if_neg (by rw [h1]; decide)])
theorem pow_256 (k : Nat) : 256 ^ k = 2 ^ (8 * k) := by rw [Nat.pow_mul]
set_option maxRecDepth 100000 in
set_option maxHeartbeats 4000000 in
theorem Encode_any (t n : Int) (w : World) (h1 : -9223372036854775808 ≤ n) (h2 : n ≤ 9223372036854775807) : Calls Try.prog 58 #[.int .i64 t, .int .i64 n] w (BP (Ty.encS t n) w) := by
  have C := Limits_any t w
  have ht := enc_type (t := t) (n := n)
  have hr := enc_range (t := t) (n := n)
  have ho := enc_ok (t := t) (n := n)
  have hl := lim_ok (t := t)
  generalize Ty.limS t = L at *
  obtain ⟨lo, hi, ok⟩ := L
  dsimp only at ht hr ho hl
  replace C := Lib.hid C
  cases ok with
  | false =>
    have HT := Lib.hid (ht rfl)
    clear ht hr ho hl
    go_enter Try.func58, Try.ntmps58
    go_wp2_with fail
    refine (C.out).mono ?_
    rintro e w1 ⟨rfl, b1⟩
    go_wp2_with fail
    go_ret2
    exact bp_bad HT.out b1
  | true =>
    by_cases hlo : n < lo
    · have HT := Lib.hid (hr rfl (.inl hlo))
      clear ht hr ho hl
      go_enter Try.func58, Try.ntmps58
      go_wp2_with fail
      refine (C.out).mono ?_
      rintro e w1 ⟨rfl, b1⟩
      go_wp2_with fail
      go_ret2
      exact bp_bad HT.out b1
    · by_cases hhi : hi < n
      · have HT := Lib.hid (hr rfl (.inr hhi))
        clear ht hr ho hl
        go_enter Try.func58, Try.ntmps58
        go_wp2_with fail
        refine (C.out).mono ?_
        rintro e w1 ⟨rfl, b1⟩
        go_wp2_with fail
        go_ret2
        exact bp_bad HT.out b1
      · have HT := Lib.hid (ho rfl (by omega))
        have hl := hl rfl
        clear ht hr ho
        have C1 := fun w => TSigned_any t w
        have C2 := fun w => TSize_any t w
        generalize (Ty.kd t).sgn = sg at *
        generalize (Ty.kd t).size = sz at *
        generalize (Ty.kd t).bits = bt at *
        replace C1 := Lib.hid C1; replace C2 := Lib.hid C2
        rcases hl with ⟨rfl, a1, a2, a3, a4⟩ | ⟨rfl, a1, a2, a3, a4, a5⟩
        · have C3 := fun (w : World) => PutInt_any (sz : Int) n w (RB.none_ (B := 0)) (by omega) (Nat.zero_le _) h1 h2
          have hp : Oct.putIntS [] (sz : Int) n = (Oct.lb sz (n % 18446744073709551616).toNat, 0) := by
            unfold Oct.putIntS
            rw [if_pos (by omega), Int.toNat_natCast, if_pos (by omega)]
            rfl
          rw [hp] at C3
          replace C3 := Lib.hid C3
          clear hp a3 a4
          go_enter Try.func58, Try.ntmps58
          go_wp2_with fail
          refine (C.out).mono ?_
          rintro e w1 ⟨rfl, b1⟩
          go_wp2_with fail
          refine (C1.out _).mono ?_
          rintro e w2 ⟨rfl, b2⟩
          have d2 := below_step b1 b2 (Nat.le_refl _)
          go_wp2_with fail
          refine (C2.out _).mono ?_
          rintro e w3 ⟨rfl, b3⟩
          have d3 := below_step d2 b3 (Nat.le_refl _)
          go_wp2_with fail
          refine (C3.out _).mono ?_
          rintro e w4 ⟨A4, c4, rfl, o4, b4⟩
          go_wp2_with fail
          go_ret2
          exact bp_ok HT.out rfl (o4.more d3.size) (below_step d3 b4 (Nat.le_refl _))
        · obtain ⟨N, rfl⟩ : ∃ N : Nat, n = (N : Int) := ⟨n.toNat, by omega⟩
          have hN : N < 256 ^ sz := by
            rw [pow_256]
            have := Nat.pow_le_pow_right (show 0 < 2 by decide) a5
            omega
          have C3 := fun (w : World) => Put_any (sz : Int) N w (RB.none_ (B := 0)) (by omega) (Nat.zero_le _) (by omega)
          have hp : Oct.putS [] (sz : Int) N = (Oct.lb sz ((N : Int) % 18446744073709551616).toNat, 0) := by
            unfold Oct.putS
            rw [if_pos (by omega), Int.toNat_natCast, if_neg (by omega), show ((N : Int) % 18446744073709551616).toNat = N by omega]
            rfl
          rw [hp] at C3
          replace C3 := Lib.hid C3
          clear hp a3 a4 hN
          go_enter Try.func58, Try.ntmps58
          go_wp2_with fail
          refine (C.out).mono ?_
          rintro e w1 ⟨rfl, b1⟩
          go_wp2_with fail
          refine (C1.out _).mono ?_
          rintro e w2 ⟨rfl, b2⟩
          have d2 := below_step b1 b2 (Nat.le_refl _)
          go_wp2_with fail
          refine (C2.out _).mono ?_
          rintro e w3 ⟨rfl, b3⟩
          have d3 := below_step d2 b3 (Nat.le_refl _)
          go_wp2_with fail
          refine (C3.out _).mono ?_
          rintro e w4 ⟨A4, c4, rfl, o4, b4⟩
          go_wp2_with fail
          go_ret2
          exact bp_ok HT.out rfl (o4.more d3.size) (below_step d3 b4 (Nat.le_refl _))
end Go.Proofs.Ytmolmpgampmolaa
