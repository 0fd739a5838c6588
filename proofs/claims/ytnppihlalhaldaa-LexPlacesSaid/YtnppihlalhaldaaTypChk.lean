/-
  Walks: types.printed, Check, and the reference's.
  Conditions: none.
-/
import Derived.Test.YtnppihlalhaldaaTypDec
namespace Go.Proofs.Ytnppihlalhaldaa
set_option linter.unusedVariables false
set_option linter.unusedSimpArgs false
open Go.RowKit
theorem seen_all {l : List UInt8} (h : ∀ i, i < l.length → Ty.seen (l.getD i 0) = true) : l.all Ty.seen = true := by
  rw [List.all_eq_true]
  intro x hx
  obtain ⟨i, hi, rfl⟩ := List.getElem_of_mem hx
  have := h i hi
  simpa [List.getD, hi] using this
theorem seen_not {l : List UInt8} {i : Nat} (hi : i < l.length) (h : Ty.seen (l.getD i 0) = false) : l.all Ty.seen = false := by
  cases hb : l.all Ty.seen with
  | false => rfl
  | true =>
    rw [List.all_eq_true] at hb
    have := hb l[i] (List.getElem_mem hi)
    rw [show l.getD i 0 = l[i] by simp [List.getD, hi]] at h
    rw [h] at this
    cases this
set_option maxHeartbeats 1000000 in
theorem printed_any {A : Option Addr} {n c B : Nat} {l : List UInt8} (w : World) (hb : RB w B A n c l) : Calls Try.prog 73 #[.slice A n c] w fun e w' => e = .returned (.bool (l.all Ty.seen)) ∧ w = w' := by
  have hn := hb.lt
  have HL := Lib.hid hb.len
  go_enter Try.func73, Try.ntmps73
  go_wp2_with fail
  go_loop [7] (fun i => ∃ k : Nat, k ≤ n ∧ i = .int .i64 k ∧ ∀ j, j < k → Ty.seen (l.getD j 0) = true) (fun i => n - (intOf i).toNat)
  case atStart => exact ⟨0, by omega, rfl, fun j hj => absurd hj (by omega)⟩
  case round =>
    obtain ⟨k, hk, rfl, hall⟩ := hrel
    have HA := Lib.hid hall; clear hall
    by_cases hlt : k < n
    · obtain ⟨b, o, rfl, hbB, hc⟩ := hb.at_ (show 0 < n by omega)
      have hck := hc k hlt
      have hx := byte_lt (l.getD k 0)
      generalize hxe : l.getD k 0 = x at *
      have HX := Lib.hid hxe; clear hxe hc hb
      rcases (show x.toNat < 32 ∨ (32 ≤ x.toNat ∧ 126 < x.toNat) ∨ (32 ≤ x.toNat ∧ x.toNat ≤ 126) by omega) with h | ⟨h1, h2⟩ | ⟨h1, h2⟩
      · go_wp2_with fail
        go_ret
        refine ⟨?_, rfl⟩
        rw [seen_not (i := k) (by have := HL.out; omega) (by rw [HX.out]; exact decide_eq_false (by omega))]
        rfl
      · go_wp2_with fail
        go_ret
        refine ⟨?_, rfl⟩
        rw [seen_not (i := k) (by have := HL.out; omega) (by rw [HX.out]; exact decide_eq_false (by omega))]
        rfl
      · go_wp2_with fail
        go_round
        case rel =>
          refine ⟨k + 1, by omega, by go_num, fun j hj => ?_⟩
          rcases Nat.lt_or_ge j k with h | h
          · exact HA.out j h
          · obtain rfl : j = k := by omega
            rw [HX.out]; exact decide_eq_true ⟨h1, h2⟩
        case measure => simp [intOf] <;> omega
    · obtain rfl : k = n := by omega
      have HS := Lib.hid (seen_all (l := l) fun i hi => HA.out i (by have := HL.out; omega))
      go_wp2_with fail
      go_ret
      exact ⟨by rw [HS.out]; rfl, rfl⟩
theorem chk_val (t most : Int) (l : List UInt8) : Ty.checkS t most l = if (Ty.kd t).name = [] then 15 else if 0 < (Ty.kd t).bits then (Ty.decS t l).2 else if most < (l.length : Int) ∨ 256 < (l.length : Int) then 3 else if t = 9 ∧ l.all Ty.seen = false then 4 else 0 := rfl
set_option maxRecDepth 100000 in
set_option maxHeartbeats 4000000 in
theorem Check_any {A : Option Addr} {n c B : Nat} {l : List UInt8} (t most : Int) (w : World) (hb : RB w B A n c l) (hB : B ≤ w.heap.size) :
    Calls Try.prog 56 #[.int .i64 t, .int .i64 most, .slice A n c] w fun e w' => e = .returned (.int .i64 (Ty.checkS t most l)) ∧ Below w.heap.size w w' := by
  have hl := hb.len
  have hn := hb.lt
  have C := of_any t w
  have D := fun (w1 : World) (h : Below w.heap.size w w1) => Decode_any t w1 (hb.below (h.mono hB)) (Nat.le_trans hB h.size)
  have P := fun (w1 : World) (h : Below w.heap.size w w1) => printed_any w1 (hb.below (h.mono hB))
  have hv := chk_val t most l
  rw [hl] at hv
  rcases kd_named t with h | h
  · rw [if_neg h] at hv
    generalize Ty.checkS t most l = v at *
    generalize Ty.decS t l = d at *
    generalize l.all Ty.seen = se at *
    obtain ⟨dv, de⟩ := d
    generalize (Ty.kd t).name = nm at *
    generalize (Ty.kd t).sgn = sg at *
    generalize (Ty.kd t).size = sz at *
    generalize (Ty.kd t).bits = bt at *
    dsimp only at hv
    have h1 : nm.isEmpty = false := by simpa using h
    have h2 := T_toList nm
    have h3 : T nm ≠ T [] := T_ne h
    have h4 : (nm == []) = false := by simpa using h
    replace C := Lib.hid C; replace D := Lib.hid D; replace P := Lib.hid P
    clear h hl
    by_cases hbt : 0 < bt
    · rw [if_pos hbt] at hv
      subst hv
      go_enter Try.func56, Try.ntmps56
      go_wp2_with fail
      refine (C.out).mono ?_
      rintro e w1 ⟨rfl, b1⟩
      have b2 := b1.alloc b1.size (.cells #[.string (T nm), .int .i64 (sz : Int), .int .i64 (bt : Int), .bool sg] 71)
      go_wp2_with fail
      refine (D.out _ b2).mono ?_
      rintro e w3 ⟨rfl, b3⟩
      go_wp2_with fail
      go_ret
      exact ⟨rfl, below_step b2 b3 (Nat.le_refl _)⟩
    · rw [if_neg hbt] at hv
      obtain rfl : bt = 0 := by omega
      by_cases hbig : most < (n : Int) ∨ 256 < (n : Int)
      · rw [if_pos hbig] at hv
        subst hv
        rcases (show (most ≤ 256 ∧ most < (n : Int)) ∨ (256 < most ∧ 256 < n) by omega) with ⟨m1, m2⟩ | ⟨m1, m2⟩
        all_goals
          clear hbig
          go_enter Try.func56, Try.ntmps56
          go_wp2_with fail
          refine (C.out).mono ?_
          rintro e w1 ⟨rfl, b1⟩
          have b2 := b1.alloc b1.size (.cells #[.string (T nm), .int .i64 (sz : Int), .int .i64 ((0 : Nat) : Int), .bool sg] 71)
          go_wp2_with fail
          go_ret
          exact ⟨rfl, b2⟩
      · rw [if_neg hbig] at hv
        have m1 : (n : Int) ≤ most := by omega
        have m2 : (n : Int) ≤ 256 := by omega
        clear hbig
        by_cases ht : t = 9
        · subst ht
          have HV := Lib.hid hv; clear hv
          by_cases hmm : most ≤ 256
          all_goals
            go_enter Try.func56, Try.ntmps56
            go_wp2_with fail
            refine (C.out).mono ?_
            rintro e w1 ⟨rfl, b1⟩
            have b2 := b1.alloc b1.size (.cells #[.string (T nm), .int .i64 (sz : Int), .int .i64 0, .bool sg] 71)
            go_wp2_with fail
            refine (P.out _ b2).mono ?_
            rintro e _ ⟨rfl, rfl⟩
            cases se with
            | true =>
              go_wp2_with fail
              go_ret
              exact ⟨by rw [HV.out]; rfl, b2⟩
            | false =>
              go_wp2_with fail
              go_ret
              exact ⟨by rw [HV.out]; rfl, b2⟩
        · rw [if_neg (fun h => ht h.1)] at hv
          subst hv
          have ht1 : (t == 9) = false := by rw [beq_eq_false_iff_ne]; exact ht
          clear ht
          by_cases hmm : most ≤ 256
          all_goals
            go_enter Try.func56, Try.ntmps56
            go_wp2_with fail
            refine (C.out).mono ?_
            rintro e w1 ⟨rfl, b1⟩
            have b2 := b1.alloc b1.size (.cells #[.string (T nm), .int .i64 (sz : Int), .int .i64 0, .bool sg] 71)
            go_wp2_with fail
            go_ret
            exact ⟨rfl, b2⟩
  · rw [h, if_pos (show Ty.kd0.name = [] from rfl)] at hv
    rw [h] at C
    unfold Ty.kd0 at C
    dsimp only at C
    rw [show T [] = (⟨#[]⟩ : ByteArray) from rfl, show ((0 : Nat) : Int) = 0 from rfl] at C
    rw [hv]
    replace C := Lib.hid C
    clear hv h D P hl
    go_enter Try.func56, Try.ntmps56
    go_wp2_with fail
    refine (C.out).mono ?_
    rintro e w1 ⟨rfl, b1⟩
    have b2 := b1.alloc b1.size (.cells #[.string ⟨#[]⟩, .int .i64 0, .int .i64 0, .bool false] 71)
    go_wp2_with fail
    go_ret
    exact ⟨rfl, b2⟩
set_option maxRecDepth 100000 in
set_option maxHeartbeats 4000000 in
theorem RCheckT_any {A : Option Addr} {n c B : Nat} {l : List UInt8} (t most : Int) (w : World) (hb : RB w B A n c l) :
    Calls Try.prog 48 #[.int .i64 t, .int .i64 most, .slice A n c] w fun e w' => e = .returned (.int .i64 (Ty.checkS t most l)) ∧ w = w' := by
  have hl := hb.len
  have hn := hb.lt
  have C1 := RKnown_any t w
  have C2 := RTBits_any t w
  have D := RDecode_any t w hb
  have hv := chk_val t most l
  rw [hl] at hv
  unfold knownB at C1
  have HL := Lib.hid hl
  by_cases h : (Ty.kd t).name = []
  · rw [if_pos h] at hv
    rw [h] at C1
    rw [hv]
    simp only [List.isEmpty_nil, Bool.not_true] at C1
    replace C1 := Lib.hid C1
    clear hv h D C2 hl
    go_enter Try.func48, Try.ntmps48
    go_wp2_with fail
    refine (C1.out).mono ?_
    rintro e _ ⟨rfl, rfl⟩
    go_wp2_with fail
    go_ret
    exact ⟨rfl, rfl⟩
  · rw [if_neg h] at hv
    have h1 : (Ty.kd t).name.isEmpty = false := by simpa using h
    rw [h1, Bool.not_false] at C1
    generalize Ty.checkS t most l = v at *
    generalize Ty.decS t l = d at *
    obtain ⟨dv, de⟩ := d
    generalize (Ty.kd t).bits = bt at *
    dsimp only at hv
    replace C1 := Lib.hid C1; replace C2 := Lib.hid C2; replace D := Lib.hid D
    clear h h1 hl
    by_cases hbt : 0 < bt
    · rw [if_pos hbt] at hv
      subst hv
      go_enter Try.func48, Try.ntmps48
      go_wp2_with fail
      refine (C1.out).mono ?_
      rintro e _ ⟨rfl, rfl⟩
      go_wp2_with fail
      refine (C2.out).mono ?_
      rintro e _ ⟨rfl, rfl⟩
      go_wp2_with fail
      refine (D.out).mono ?_
      rintro e _ ⟨rfl, rfl⟩
      go_wp2_with fail
      go_ret
      exact ⟨rfl, rfl⟩
    · rw [if_neg hbt] at hv
      obtain rfl : bt = 0 := by omega
      by_cases hbig : most < (n : Int) ∨ 256 < (n : Int)
      · rw [if_pos hbig] at hv
        subst hv
        rcases (show most < (n : Int) ∨ ((n : Int) ≤ most ∧ 256 < n) by omega) with m1 | ⟨m1, m2⟩
        all_goals
          clear hbig
          go_enter Try.func48, Try.ntmps48
          go_wp2_with fail
          refine (C1.out).mono ?_
          rintro e _ ⟨rfl, rfl⟩
          go_wp2_with fail
          refine (C2.out).mono ?_
          rintro e _ ⟨rfl, rfl⟩
          go_wp2_with fail
          go_ret
          exact ⟨rfl, rfl⟩
      · rw [if_neg hbig] at hv
        have m1 : (n : Int) ≤ most := by omega
        have m2 : (n : Int) ≤ 256 := by omega
        have HV := Lib.hid hv
        clear hbig hv
        go_enter Try.func48, Try.ntmps48
        go_wp2_with fail
        refine (C1.out).mono ?_
        rintro e _ ⟨rfl, rfl⟩
        go_wp2_with fail
        refine (C2.out).mono ?_
        rintro e _ ⟨rfl, rfl⟩
        go_wp2_with fail
        go_loop [9] (fun i => ∃ k : Nat, k ≤ n ∧ i = .int .i64 k ∧ ∀ j, j < k → t = 9 → Ty.seen (l.getD j 0) = true) (fun i => n - (intOf i).toNat)
        case atStart => exact ⟨0, by omega, rfl, fun j hj => absurd hj (by omega)⟩
        case round =>
          obtain ⟨k, hk, rfl, hall⟩ := hrel
          have HA := Lib.hid hall; clear hall
          by_cases hlt : k < n
          · obtain ⟨b, o, rfl, hbB, hc⟩ := hb.at_ (show 0 < n by omega)
            have hck := hc k hlt
            have hx := byte_lt (l.getD k 0)
            generalize hxe : l.getD k 0 = x at *
            have HX := Lib.hid hxe; clear hxe hc
            by_cases ht : t = 9
            · subst ht
              rcases (show x.toNat < 32 ∨ (32 ≤ x.toNat ∧ 126 < x.toNat) ∨ (32 ≤ x.toNat ∧ x.toNat ≤ 126) by omega) with h | ⟨h1, h2⟩ | ⟨h1, h2⟩
              · go_wp2_with fail
                go_ret
                refine ⟨?_, rfl⟩
                rw [HV.out, seen_not (i := k) (by have := HL.out; omega) (by rw [HX.out]; exact decide_eq_false (by omega))]
                rfl
              · go_wp2_with fail
                go_ret
                refine ⟨?_, rfl⟩
                rw [HV.out, seen_not (i := k) (by have := HL.out; omega) (by rw [HX.out]; exact decide_eq_false (by omega))]
                rfl
              · go_wp2_with fail
                go_round
                case rel =>
                  refine ⟨k + 1, by omega, by go_num, fun j hj _ => ?_⟩
                  rcases Nat.lt_or_ge j k with h | h
                  · exact HA.out j h rfl
                  · obtain rfl : j = k := by omega
                    rw [HX.out]; exact decide_eq_true ⟨h1, h2⟩
                case measure => simp [intOf] <;> omega
            · have ht1 : (t == 9) = false := by rw [beq_eq_false_iff_ne]; exact ht
              have HT := Lib.hid ht; clear ht
              go_wp2_with fail
              go_round
              case rel => exact ⟨k + 1, by omega, by go_num, fun j hj h => absurd h HT.out⟩
              case measure => simp [intOf] <;> omega
          · obtain rfl : k = n := by omega
            have HS : Hid (v = 0) := by
              refine Lib.hid ?_
              rw [HV.out]
              by_cases ht : t = 9
              · rw [if_neg]
                rw [seen_all (l := l) fun i hi => HA.out i (by have := HL.out; omega) ht]
                simp
              · rw [if_neg fun h => ht h.1]
            go_wp2_with fail
            go_ret
            exact ⟨by rw [HS.out]; rfl, rfl⟩
end Go.Proofs.Ytnppihlalhaldaa
