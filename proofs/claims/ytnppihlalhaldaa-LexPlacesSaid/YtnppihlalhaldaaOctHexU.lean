/-
  Walks: the program's Unhex and the reference's.
  Conditions: none.
-/
import Derived.Test.YtnppihlalhaldaaOctHexR
namespace Go.Proofs.Ytnppihlalhaldaa
set_option linter.unusedVariables false
set_option linter.unusedSimpArgs false
open Go.RowKit
theorem run_text_at (s : List UInt8) (kd : IntKind) (z : Int) (k : Nat) (hz : z = (k : Int)) (hk : k < s.length) (w : World) :
    (Instr.index 9 (.string ⟨s.toArray⟩) (.int kd z)).run Try.prog w = .ok (.int .u8 ((s.getD k 0).toNat : Int)) w := by
  subst hz
  rw [run_index_string w _ _ kd _ Try.underlying9, dif_pos ⟨by omega, by exact Int.ofNat_lt.2 hk⟩]
  have e : ((k : Int)).toNat = k := by omega
  simp only [e]
  have e2 : (⟨s.toArray⟩ : ByteArray)[k]'(hk) = s.getD k 0 := by
    show s.toArray[k] = _
    simp [List.getD, hk]
  rw [e2]
theorem or_nibs (h k : Nat) (hh : h < 16) (hk : k < 16) : bits .or .u8 ((h : Int) * 16) (k : Int) = ((UInt8.ofNat (16 * h + k)).toNat : Int) := by
  rw [show (h : Int) * 16 = ((2 ^ 4 * h : Nat) : Int) by omega, u8_or_nat _ _ (by omega) (by omega), ← Nat.two_pow_add_eq_or_of_lt (by omega : k < 2 ^ 4), UInt8.toNat_ofNat']
  omega
set_option maxHeartbeats 1000000 in
theorem Unhex_any (s : List UInt8) (w : World) (hn : s.length ≤ 200000) :
    Calls Try.prog 72 #[.string ⟨s.toArray⟩] w fun e w' => ∃ A1 c1, e = .returned (.tuple #[.slice A1 (Oct.unhexS s).1.length c1, .int .i64 (Oct.unhexS s).2]) ∧ OB w' w.heap.size A1 (Oct.unhexS s).1.length c1 (Oct.unhexS s).1 ∧ Below w.heap.size w w' := by
  generalize hsp : Oct.unhexS s = sp
  have hat := fun kd z k hz hk w => run_text_at s kd z k hz hk w
  have hts : (⟨s.toArray⟩ : ByteArray).size = s.length := by show s.toArray.size = _; simp
  generalize hst : (⟨s.toArray⟩ : ByteArray) = t at *
  generalize hsl : s.length = n at *
  have HS := Lib.hid hsp
  have HL := Lib.hid hsl
  have HA := Lib.hid hat
  clear hsp hst hsl hat
  obtain ⟨m, rfl | rfl⟩ : ∃ m, n = 2 * m ∨ n = 2 * m + 1 := ⟨n / 2, by omega⟩
  · go_enter Try.func72, Try.ntmps72
    go_wp2_with (at_make; refine wpList_mkb etb rfl (.const (.int .i64 0)) (.tmp 16) rfl .i64 .i64 0 m rfl rfl (by omega) (by omega) w.heap.size (Nat.le_refl _) ?_; intro w3 h3 hb3 hz3)
    go_loopw [4, 21] (fun v i wr => ∃ (j : Nat) (A1 : Option Addr) (c1 : Nat) (l1 : List UInt8), j ≤ m ∧ i = .int .i64 j ∧ v = .slice A1 j c1 ∧ Oct.pairs (s.take (2 * j)) = some l1 ∧ OB wr w.heap.size A1 j c1 l1 ∧ Below w.heap.size w wr) (fun _ i _ => m - (intOf i).toNat)
    case atStart => exact ⟨0, _, _, [], Nat.zero_le _, rfl, rfl, rfl, h3, hb3⟩
    case round =>
      obtain ⟨j, A1, c1, l1, hj, rfl, rfl, hp, hown, hbel⟩ := hrel
      have HP := Lib.hid hp
      clear hp
      by_cases hlt : j < m
      · have hi1 := HA.out .i64 (2 * (j : Int)) (2 * j) (by omega) (by omega)
        have hi2 := HA.out .i64 (2 * (j : Int) + 1) (2 * j + 1) (by omega) (by omega)
        generalize hx : s.getD (2 * j) 0 = x at *
        generalize hy : s.getD (2 * j + 1) 0 = y at *
        have HX := Lib.hid hx
        have HY := Lib.hid hy
        clear hx hy
        have hbx := byte_lt x
        have hby := byte_lt y
        cases hnx : Oct.nib x with
        | none =>
          have HNX := Lib.hid hnx
          have HCX := Lib.hid (nibble_none x · hnx)
          have hcy : ∃ (v : Nat) (b : Bool), v < 256 ∧ ∀ w, Calls Try.prog 81 #[.int .u8 (y.toNat : Int)] w fun e w' => e = .returned (.tuple #[.int .u8 (v : Int), .bool b]) ∧ w = w' := by
            cases hny : Oct.nib y with
            | none => exact ⟨0, false, by omega, fun w => nibble_none y w hny⟩
            | some k => exact ⟨k, true, by have := Oct.nib_lt hny; omega, fun w => nibble_some y k w hny⟩
          obtain ⟨v, b, hv, hcy⟩ := hcy
          have HCY := Lib.hid hcy
          clear hcy hnx
          go_wp2_with fail
          refine (HCX.out _).mono ?_
          rintro e w4 ⟨rfl, rfl⟩
          go_wp2_with fail
          refine (HCY.out _).mono ?_
          rintro e w4 ⟨rfl, rfl⟩
          go_wp2_with fail
          go_ret2
          have hs := HS.out
          rw [Oct.unhexS, Oct.pairs_bad (k := j) (by rw [HL.out]; omega) (by rw [HX.out, HY.out]; exact .inl HNX.out)] at hs
          subst hs
          exact ⟨_, _, rfl, OB.none_ _ _, hbel⟩
        | some h =>
          have hh := Oct.nib_lt hnx
          have HNX := Lib.hid hnx
          have HCX := Lib.hid (nibble_some x h · hnx)
          clear hnx
          cases hny : Oct.nib y with
          | none =>
            have HNY := Lib.hid hny
            have HCY := Lib.hid (nibble_none y · hny)
            clear hny
            go_wp2_with fail
            refine (HCX.out _).mono ?_
            rintro e w4 ⟨rfl, rfl⟩
            go_wp2_with fail
            refine (HCY.out _).mono ?_
            rintro e w4 ⟨rfl, rfl⟩
            go_wp2_with fail
            go_ret2
            have hs := HS.out
            rw [Oct.unhexS, Oct.pairs_bad (k := j) (by rw [HL.out]; omega) (by rw [HX.out, HY.out]; exact .inr HNY.out)] at hs
            subst hs
            exact ⟨_, _, rfl, OB.none_ _ _, hbel⟩
          | some k =>
            have hk := Oct.nib_lt hny
            have HNY := Lib.hid hny
            have HCY := Lib.hid (nibble_some y k · hny)
            clear hny
            go_wp2_with fail
            refine (HCX.out _).mono ?_
            rintro e w4 ⟨rfl, rfl⟩
            go_wp2_with fail
            refine (HCY.out _).mono ?_
            rintro e w4 ⟨rfl, rfl⟩
            go_wp2_with (at_builtin; refine wpList_appb_one etb rfl (.tmp 47) (.tmp 52) rfl rfl rfl w.heap.size hown (UInt8.ofNat (16 * h + k)) ?hv (by omega) hbel.size ?_; rotate_left; intro A2 c2 w3 h3 hb3 _ _)
            · go_roundw
              case rel => exact ⟨j + 1, A2, c2, _, by omega, by go_num, rfl, by
                exact Oct.pairs_step (by rw [HL.out]; omega) HP.out (by rw [HX.out]; exact HNX.out) (by rw [HY.out]; exact HNY.out), h3, hbel.trans hb3⟩
              case measure => simp [intOf] <;> omega
            · exact or_nibs h k hh hk
      · obtain rfl : j = m := by omega
        go_wp2_with fail
        go_ret2
        have hs := HS.out
        have hp := HP.out
        rw [List.take_of_length_le (by rw [HL.out]; omega)] at hp
        rw [Oct.unhexS, hp] at hs
        subst hs
        have : l1.length = j := by have := Oct.pairs_length _ _ hp; rw [HL.out] at this; omega
        subst this
        exact ⟨_, _, rfl, hown, hbel⟩
  · go_enter Try.func72, Try.ntmps72
    go_wp2_with fail
    go_ret2
    have hs := HS.out
    rw [Oct.unhexS, Oct.pairs_odd _ (by rw [HL.out]; omega)] at hs
    subst hs
    exact ⟨_, _, rfl, OB.none_ _ _, Below.refl _ _⟩
theorem sum_nibs (h k : Nat) (hh : h < 16) (hk : k < 16) : 16 * (h : Int) + (k : Int) = ((UInt8.ofNat (16 * h + k)).toNat : Int) := by
  rw [UInt8.toNat_ofNat']
  omega
theorem digit_none (c : UInt8) (h : Oct.nib c = none) (w : World) : Calls Try.prog 42 #[.int .u8 (c.toNat : Int)] w fun e w' => e = .returned (.int .i64 (-1)) ∧ w = w' := by
  have := digit_any c w
  rw [h] at this
  exact this
theorem digit_some (c : UInt8) (k : Nat) (h : Oct.nib c = some k) (w : World) : Calls Try.prog 42 #[.int .u8 (c.toNat : Int)] w fun e w' => e = .returned (.int .i64 (k : Int)) ∧ w = w' := by
  have := digit_any c w
  rw [h] at this
  exact this
set_option maxHeartbeats 1000000 in
theorem RUnhex_any (s : List UInt8) (w : World) (hn : s.length ≤ 200000) :
    Calls Try.prog 35 #[.string ⟨s.toArray⟩] w fun e w' => ∃ A1 c1, e = .returned (.tuple #[.slice A1 (Oct.unhexS s).1.length c1, .int .i64 (Oct.unhexS s).2]) ∧ OB w' w.heap.size A1 (Oct.unhexS s).1.length c1 (Oct.unhexS s).1 ∧ Below w.heap.size w w' := by
  generalize hsp : Oct.unhexS s = sp
  have hat := fun kd z k hz hk w => run_text_at s kd z k hz hk w
  have hts : (⟨s.toArray⟩ : ByteArray).size = s.length := by show s.toArray.size = _; simp
  generalize hst : (⟨s.toArray⟩ : ByteArray) = t at *
  generalize hsl : s.length = n at *
  have HS := Lib.hid hsp
  have HL := Lib.hid hsl
  have HA := Lib.hid hat
  clear hsp hst hsl hat
  obtain ⟨m, rfl | rfl⟩ : ∃ m, n = 2 * m ∨ n = 2 * m + 1 := ⟨n / 2, by omega⟩
  · go_enter Try.func35, Try.ntmps35
    go_wp2_with fail
    go_loopw [4, 5] (fun v i wr => ∃ (j : Nat) (A1 : Option Addr) (c1 : Nat) (l1 : List UInt8), j ≤ m ∧ i = .int .i64 (2 * (j : Int)) ∧ v = .slice A1 j c1 ∧ Oct.pairs (s.take (2 * j)) = some l1 ∧ OB wr w.heap.size A1 j c1 l1 ∧ Below w.heap.size w wr) (fun _ i _ => 2 * m - (intOf i).toNat)
    case atStart => exact ⟨0, none, 0, [], Nat.zero_le _, rfl, rfl, rfl, OB.none_ _ _, Below.refl _ _⟩
    case round =>
      obtain ⟨j, A1, c1, l1, hj, rfl, rfl, hp, hown, hbel⟩ := hrel
      have HP := Lib.hid hp
      clear hp
      by_cases hlt : j < m
      · have hi1 := HA.out .i64 (2 * (j : Int)) (2 * j) (by omega) (by omega)
        have hi2 := HA.out .i64 (2 * (j : Int) + 1) (2 * j + 1) (by omega) (by omega)
        generalize hx : s.getD (2 * j) 0 = x at *
        generalize hy : s.getD (2 * j + 1) 0 = y at *
        have HX := Lib.hid hx
        have HY := Lib.hid hy
        clear hx hy
        have hbx := byte_lt x
        have hby := byte_lt y
        cases hnx : Oct.nib x with
        | none =>
          have HNX := Lib.hid hnx
          have HCX := Lib.hid (digit_none x hnx)
          have hcy : ∃ v : Int, ∀ w, Calls Try.prog 42 #[.int .u8 (y.toNat : Int)] w fun e w' => e = .returned (.int .i64 v) ∧ w = w' := ⟨_, fun w => digit_any y w⟩
          obtain ⟨v, hcy⟩ := hcy
          have HCY := Lib.hid hcy
          clear hcy hnx
          go_wp2_with fail
          refine (HCX.out _).mono ?_
          rintro e w4 ⟨rfl, rfl⟩
          go_wp2_with fail
          refine (HCY.out _).mono ?_
          rintro e w4 ⟨rfl, rfl⟩
          go_wp2_with fail
          go_ret2
          have hs := HS.out
          rw [Oct.unhexS, Oct.pairs_bad (k := j) (by rw [HL.out]; omega) (by rw [HX.out, HY.out]; exact .inl HNX.out)] at hs
          subst hs
          exact ⟨_, _, rfl, OB.none_ _ _, hbel⟩
        | some h =>
          have hh := Oct.nib_lt hnx
          have HNX := Lib.hid hnx
          have HCX := Lib.hid (digit_some x h hnx)
          clear hnx
          cases hny : Oct.nib y with
          | none =>
            have HNY := Lib.hid hny
            have HCY := Lib.hid (digit_none y hny)
            clear hny
            go_wp2_with fail
            refine (HCX.out _).mono ?_
            rintro e w4 ⟨rfl, rfl⟩
            go_wp2_with fail
            refine (HCY.out _).mono ?_
            rintro e w4 ⟨rfl, rfl⟩
            go_wp2_with fail
            go_ret2
            have hs := HS.out
            rw [Oct.unhexS, Oct.pairs_bad (k := j) (by rw [HL.out]; omega) (by rw [HX.out, HY.out]; exact .inr HNY.out)] at hs
            subst hs
            exact ⟨_, _, rfl, OB.none_ _ _, hbel⟩
          | some k =>
            have hk := Oct.nib_lt hny
            have HNY := Lib.hid hny
            have HCY := Lib.hid (digit_some y k hny)
            clear hny
            go_wp2_with fail
            refine (HCX.out _).mono ?_
            rintro e w4 ⟨rfl, rfl⟩
            go_wp2_with fail
            refine (HCY.out _).mono ?_
            rintro e w4 ⟨rfl, rfl⟩
            go_wp2_with (at_builtin; refine wpList_appb_one etb rfl (.tmp 33) (.tmp 39) rfl rfl rfl w.heap.size hown (UInt8.ofNat (16 * h + k)) ?hv (by omega) hbel.size ?_; rotate_left; intro A2 c2 w3 h3 hb3 _ _)
            · go_roundw
              case rel => exact ⟨j + 1, A2, c2, _, by omega, by go_num, rfl, by
                exact Oct.pairs_step (by rw [HL.out]; omega) HP.out (by rw [HX.out]; exact HNX.out) (by rw [HY.out]; exact HNY.out), h3, hbel.trans hb3⟩
              case measure => simp [intOf] <;> omega
            · exact sum_nibs h k hh hk
      · obtain rfl : j = m := by omega
        go_wp2_with fail
        go_ret2
        have hs := HS.out
        have hp := HP.out
        rw [List.take_of_length_le (by rw [HL.out]; omega)] at hp
        rw [Oct.unhexS, hp] at hs
        subst hs
        have : l1.length = j := by have := Oct.pairs_length _ _ hp; rw [HL.out] at this; omega
        subst this
        exact ⟨_, _, rfl, hown, hbel⟩
  · go_enter Try.func35, Try.ntmps35
    go_wp2_with fail
    go_ret2
    have hs := HS.out
    rw [Oct.unhexS, Oct.pairs_odd _ (by rw [HL.out]; omega)] at hs
    subst hs
    exact ⟨_, _, rfl, OB.none_ _ _, Below.refl _ _⟩
end Go.Proofs.Ytnppihlalhaldaa
