/-
  Texts joined: TypDec, TypChk, EntVal.
  Conditions: none.
-/
import Derived.Test.YtmolmpgampmolaaGreatJ08
import Derived.Test.YtmolmpgampmolaaGreatJ11
/-
  Walks: types.Decode, and the reference's.
  Conditions: none.
-/
namespace Go.Proofs.YtmolmpgampmolaaGreat
set_option linter.unusedVariables false
set_option linter.unusedSimpArgs false
open Go.RowKit
theorem getS_all {l : List UInt8} {k : Nat} (h : l.length = k) (h1 : 1 ≤ k) (h2 : k ≤ 8) : Oct.getS l 0 (k : Int) = (Oct.le l, 0) := by
  unfold Oct.getS
  rw [if_pos (by omega), if_neg (by omega), Int.toNat_natCast, show (0 : Int).toNat = 0 from rfl]
  subst h
  simp [Oct.cut]
theorem getIntS_all {l : List UInt8} {k : Nat} (h : l.length = k) (h1 : 1 ≤ k) (h2 : k ≤ 8) : Oct.getIntS l 0 (k : Int) = (Oct.sgn (Oct.le l) (8 * k), 0) := by
  unfold Oct.getIntS
  rw [getS_all h h1 h2, if_pos rfl, Int.toNat_natCast]
set_option maxRecDepth 100000 in
set_option maxHeartbeats 4000000 in
theorem Decode_any {A : Option Addr} {n c B : Nat} {l : List UInt8} (t : Int) (w : World) (hb : RB w B A n c l) (hB : B ≤ w.heap.size) :
    Calls Tryz.prog 79 #[.int .i64 t, .slice A n c] w fun e w' => e = .returned (.tuple #[.int .i64 (Ty.decS t l).1, .int .i64 (Ty.decS t l).2]) ∧ Below w.heap.size w w' := by
  have hl := hb.len
  have hn := hb.lt
  have C := of_any t w
  have hk := kd_num t
  have hd : Ty.decS t l = if (Ty.kd t).bits = 0 then (0, 15) else if l.length < (Ty.kd t).size then (0, 2) else if (Ty.kd t).size < l.length then (0, 3)
    else if (Ty.kd t).sgn = true then (Oct.sgn (Oct.le l) (8 * (Ty.kd t).size), 0) else if 2 ^ (Ty.kd t).bits ≤ Oct.le l then (0, 9) else ((Oct.le l : Int), 0) := rfl
  generalize (Ty.kd t).name = nm at *
  generalize (Ty.kd t).sgn = sg at *
  generalize (Ty.kd t).size = sz at *
  generalize (Ty.kd t).bits = bt at *
  generalize Ty.decS t l = d at *
  rw [hl] at hd
  replace C := Lib.hid C
  have HL := Lib.hid hl; clear hl
  by_cases h0 : bt = 0
  · subst h0
    rw [if_pos rfl] at hd
    have HD := Lib.hid hd; clear hd hk
    go_enter Tryz.func79, Tryz.ntmps79
    go_wp2_with fail
    refine (C.out).mono ?_
    rintro e w1 ⟨rfl, b1⟩
    go_wp2_with fail
    go_ret2
    exact ⟨by rw [HD.out]; rfl, b1.alloc b1.size _⟩
  · rw [if_neg h0] at hd
    have hbz : ((bt : Int) == 0) = false := by rw [beq_eq_false_iff_ne]; omega
    by_cases hlt : n < sz
    · rw [if_pos hlt] at hd
      have HD := Lib.hid hd; clear hd hk h0
      go_enter Tryz.func79, Tryz.ntmps79
      go_wp2_with fail
      refine (C.out).mono ?_
      rintro e w1 ⟨rfl, b1⟩
      go_wp2_with fail
      go_ret2
      exact ⟨by rw [HD.out]; rfl, b1.alloc b1.size _⟩
    · rw [if_neg hlt] at hd
      by_cases hgt : sz < n
      · rw [if_pos hgt] at hd
        have HD := Lib.hid hd; clear hd hk h0
        go_enter Tryz.func79, Tryz.ntmps79
        go_wp2_with fail
        refine (C.out).mono ?_
        rintro e w1 ⟨rfl, b1⟩
        go_wp2_with fail
        go_ret2
        exact ⟨by rw [HD.out]; rfl, b1.alloc b1.size _⟩
      · rw [if_neg hgt] at hd
        obtain rfl : n = sz := by omega
        rcases hk with ⟨h, _⟩ | ⟨rfl, e1, e2, e3⟩ | ⟨rfl, e1, e2, e3, e4, e5⟩
        · exact absurd h h0
        · rw [if_pos rfl] at hd
          have HD := Lib.hid hd; clear hd h0
          have G := fun (w1 : World) (h : Below w.heap.size w w1) => GetInt_any 0 (n : Int) w1 (hb.below (h.mono hB))
          rw [getIntS_all HL.out e2 e3] at G
          dsimp only at G
          replace G := Lib.hid G
          clear e1
          go_enter Tryz.func79, Tryz.ntmps79
          go_wp2_with fail
          refine (C.out).mono ?_
          rintro e w1 ⟨rfl, b1⟩
          have b2 := b1.alloc b1.size (.cells #[.string (T nm), .int .i64 (n : Int), .int .i64 (bt : Int), .bool true] 107)
          go_wp2_with fail
          refine (G.out _ b2).mono ?_
          rintro e _ ⟨rfl, rfl⟩
          go_wp2_with fail
          go_ret2
          exact ⟨by rw [HD.out]; rfl, b2⟩
        · rw [if_neg (by decide)] at hd
          have hle := Oct.le_lt l
          rw [HL.out] at hle
          have hle2 : Oct.le l < 4294967296 := Nat.lt_of_lt_of_le hle (Nat.le_trans (Nat.pow_le_pow_right (by decide) e4) (by decide))
          have G := fun (w1 : World) (h : Below w.heap.size w w1) => Get_any 0 (n : Int) w1 (hb.below (h.mono hB))
          rw [getS_all HL.out e3 (by omega)] at G
          dsimp only at G
          replace G := Lib.hid G
          generalize Oct.le l = v at *
          by_cases hw : 2 ^ bt ≤ v
          · rw [if_pos hw] at hd
            have HD := Lib.hid hd; clear hd h0
            have hbt : bt < 8 * n := by
              rcases Nat.lt_or_ge bt (8 * n) with h | h
              · exact h
              · obtain rfl : bt = 8 * n := by omega
                rw [pow_256] at hle
                omega
            have ht : ((v : Int) / 2 ^ bt != 0) = true := by
              rw [show (v : Int) / 2 ^ bt = ((v / 2 ^ bt : Nat) : Int) by simp, bne_iff_ne]
              have := Nat.div_pos hw (Nat.pow_pos (by decide))
              omega
            clear hle hw e5
            go_enter Tryz.func79, Tryz.ntmps79
            go_wp2_with fail
            refine (C.out).mono ?_
            rintro e w1 ⟨rfl, b1⟩
            have b2 := b1.alloc b1.size (.cells #[.string (T nm), .int .i64 (n : Int), .int .i64 (bt : Int), .bool false] 107)
            go_wp2_with fail
            refine (G.out _ b2).mono ?_
            rintro e _ ⟨rfl, rfl⟩
            go_wp2_with fail
            go_ret2
            exact ⟨by rw [HD.out]; rfl, b2⟩
          · rw [if_neg hw] at hd
            have HD := Lib.hid hd; clear hd h0
            have ht : ((v : Int) / 2 ^ bt != 0) = false := by
              rw [show (v : Int) / 2 ^ bt = ((v / 2 ^ bt : Nat) : Int) by simp, bne_eq_false_iff_eq, Nat.div_eq_of_lt (by omega)]
              rfl
            clear hle hw e5
            by_cases hbt : bt < 8 * n
            all_goals
              go_enter Tryz.func79, Tryz.ntmps79
              go_wp2_with fail
              refine (C.out).mono ?_
              rintro e w1 ⟨rfl, b1⟩
              have b2 := b1.alloc b1.size (.cells #[.string (T nm), .int .i64 (n : Int), .int .i64 (bt : Int), .bool false] 107)
              go_wp2_with fail
              refine (G.out _ b2).mono ?_
              rintro e _ ⟨rfl, rfl⟩
              go_wp2_with fail
              go_ret2
              exact ⟨by rw [HD.out]; rfl, b2⟩
set_option maxRecDepth 100000 in
set_option maxHeartbeats 4000000 in
theorem RDecode_any {A : Option Addr} {n c B : Nat} {l : List UInt8} (t : Int) (w : World) (hb : RB w B A n c l) :
    Calls Tryz.prog 83 #[.int .i64 t, .slice A n c] w fun e w' => e = .returned (.tuple #[.int .i64 (Ty.decS t l).1, .int .i64 (Ty.decS t l).2]) ∧ w = w' := by
  have hl := hb.len
  have hn := hb.lt
  have C1 := RTBits_any t w
  have C2 := RSize_any t w
  have C3 := RSigned_any t w
  have hk := kd_num t
  have hk1 : t = 1 → (Ty.kd t).bits = 1 := by rintro rfl; rfl
  have hd : Ty.decS t l = if (Ty.kd t).bits = 0 then (0, 15) else if l.length < (Ty.kd t).size then (0, 2) else if (Ty.kd t).size < l.length then (0, 3)
    else if (Ty.kd t).sgn = true then (Oct.sgn (Oct.le l) (8 * (Ty.kd t).size), 0) else if 2 ^ (Ty.kd t).bits ≤ Oct.le l then (0, 9) else ((Oct.le l : Int), 0) := rfl
  generalize (Ty.kd t).sgn = sg at *
  generalize (Ty.kd t).size = sz at *
  generalize (Ty.kd t).bits = bt at *
  generalize Ty.decS t l = d at *
  rw [hl] at hd
  replace C1 := Lib.hid C1; replace C2 := Lib.hid C2; replace C3 := Lib.hid C3
  have HL := Lib.hid hl; clear hl
  have HK1 := Lib.hid hk1; clear hk1
  by_cases h0 : bt = 0
  · subst h0
    rw [if_pos rfl] at hd
    have HD := Lib.hid hd; clear hd hk
    go_enter Tryz.func83, Tryz.ntmps83
    go_wp2_with fail
    refine (C1.out).mono ?_
    rintro e _ ⟨rfl, rfl⟩
    go_wp2_with fail
    go_ret2
    exact ⟨by rw [HD.out]; rfl, rfl⟩
  · rw [if_neg h0] at hd
    have hbz : ((bt : Int) == 0) = false := by rw [beq_eq_false_iff_ne]; omega
    by_cases hlt : n < sz
    · rw [if_pos hlt] at hd
      have HD := Lib.hid hd; clear hd hk h0
      go_enter Tryz.func83, Tryz.ntmps83
      go_wp2_with fail
      refine (C1.out).mono ?_
      rintro e _ ⟨rfl, rfl⟩
      go_wp2_with fail
      refine (C2.out).mono ?_
      rintro e _ ⟨rfl, rfl⟩
      go_wp2_with fail
      go_ret2
      exact ⟨by rw [HD.out]; rfl, rfl⟩
    · rw [if_neg hlt] at hd
      by_cases hgt : sz < n
      · rw [if_pos hgt] at hd
        have HD := Lib.hid hd; clear hd hk h0
        go_enter Tryz.func83, Tryz.ntmps83
        go_wp2_with fail
        refine (C1.out).mono ?_
        rintro e _ ⟨rfl, rfl⟩
        go_wp2_with fail
        refine (C2.out).mono ?_
        rintro e _ ⟨rfl, rfl⟩
        go_wp2_with fail
        refine (C2.out).mono ?_
        rintro e _ ⟨rfl, rfl⟩
        go_wp2_with fail
        go_ret2
        exact ⟨by rw [HD.out]; rfl, rfl⟩
      · rw [if_neg hgt] at hd
        obtain rfl : n = sz := by omega
        rcases hk with ⟨h, _⟩ | ⟨rfl, e1, e2, e3⟩ | ⟨rfl, e1, e2, e3, e4, e5⟩
        · exact absurd h h0
        · rw [if_pos rfl] at hd
          have HD := Lib.hid hd; clear hd h0
          have G := RGetInt_any 0 (n : Int) w hb
          rw [getIntS_all HL.out e2 e3] at G
          dsimp only at G
          replace G := Lib.hid G
          clear e1
          go_enter Tryz.func83, Tryz.ntmps83
          go_wp2_with fail
          refine (C1.out).mono ?_
          rintro e _ ⟨rfl, rfl⟩
          go_wp2_with fail
          refine (C2.out).mono ?_
          rintro e _ ⟨rfl, rfl⟩
          go_wp2_with fail
          refine (C2.out).mono ?_
          rintro e _ ⟨rfl, rfl⟩
          go_wp2_with fail
          refine (C3.out).mono ?_
          rintro e _ ⟨rfl, rfl⟩
          go_wp2_with fail
          refine (C2.out).mono ?_
          rintro e _ ⟨rfl, rfl⟩
          go_wp2_with fail
          refine (G.out).mono ?_
          rintro e _ ⟨rfl, rfl⟩
          go_wp2_with fail
          go_ret2
          exact ⟨by rw [HD.out]; rfl, rfl⟩
        · rw [if_neg (by decide)] at hd
          have hle := Oct.le_lt l
          rw [HL.out] at hle
          have hle2 : Oct.le l < 4294967296 := Nat.lt_of_lt_of_le hle (Nat.le_trans (Nat.pow_le_pow_right (by decide) e4) (by decide))
          have G := RGet_any 0 (n : Int) w hb
          rw [getS_all HL.out e3 (by omega)] at G
          dsimp only at G
          replace G := Lib.hid G
          generalize Oct.le l = v at *
          rcases (show (t = 1 ∧ 1 < v ∧ 2 ^ bt ≤ v) ∨ (t = 1 ∧ v ≤ 1 ∧ ¬ 2 ^ bt ≤ v) ∨ (t ≠ 1 ∧ ¬ 2 ^ bt ≤ v) by
            by_cases ht : t = 1
            · have hb1 := HK1.out ht
              subst hb1
              by_cases hv : 1 < v
              · exact .inl ⟨ht, hv, by omega⟩
              · exact .inr (.inl ⟨ht, by omega, by omega⟩)
            · right; right
              refine ⟨ht, ?_⟩
              rcases e5 with e5 | e5
              · rw [e5, ← pow_256]; omega
              · exact absurd e5.2 ht) with ⟨rfl, hv, hw⟩ | ⟨rfl, hv, hw⟩ | ⟨ht, hw⟩
          · rw [if_pos hw] at hd
            have HD := Lib.hid hd; clear hd h0 hw hle e5
            go_enter Tryz.func83, Tryz.ntmps83
            go_wp2_with fail
            refine (C1.out).mono ?_
            rintro e _ ⟨rfl, rfl⟩
            go_wp2_with fail
            refine (C2.out).mono ?_
            rintro e _ ⟨rfl, rfl⟩
            go_wp2_with fail
            refine (C2.out).mono ?_
            rintro e _ ⟨rfl, rfl⟩
            go_wp2_with fail
            refine (C3.out).mono ?_
            rintro e _ ⟨rfl, rfl⟩
            go_wp2_with fail
            refine (C2.out).mono ?_
            rintro e _ ⟨rfl, rfl⟩
            go_wp2_with fail
            refine (G.out).mono ?_
            rintro e _ ⟨rfl, rfl⟩
            go_wp2_with fail
            go_ret2
            exact ⟨by rw [HD.out]; rfl, rfl⟩
          · rw [if_neg hw] at hd
            have HD := Lib.hid hd; clear hd h0 hw hle e5
            go_enter Tryz.func83, Tryz.ntmps83
            go_wp2_with fail
            refine (C1.out).mono ?_
            rintro e _ ⟨rfl, rfl⟩
            go_wp2_with fail
            refine (C2.out).mono ?_
            rintro e _ ⟨rfl, rfl⟩
            go_wp2_with fail
            refine (C2.out).mono ?_
            rintro e _ ⟨rfl, rfl⟩
            go_wp2_with fail
            refine (C3.out).mono ?_
            rintro e _ ⟨rfl, rfl⟩
            go_wp2_with fail
            refine (C2.out).mono ?_
            rintro e _ ⟨rfl, rfl⟩
            go_wp2_with fail
            refine (G.out).mono ?_
            rintro e _ ⟨rfl, rfl⟩
            go_wp2_with fail
            go_ret2
            exact ⟨by rw [HD.out]; rfl, rfl⟩
          · rw [if_neg hw] at hd
            have HD := Lib.hid hd; clear hd h0 hw hle e5
            have ht1 : (t == 1) = false := by rw [beq_eq_false_iff_ne]; exact ht
            clear ht
            go_enter Tryz.func83, Tryz.ntmps83
            go_wp2_with fail
            refine (C1.out).mono ?_
            rintro e _ ⟨rfl, rfl⟩
            go_wp2_with fail
            refine (C2.out).mono ?_
            rintro e _ ⟨rfl, rfl⟩
            go_wp2_with fail
            refine (C2.out).mono ?_
            rintro e _ ⟨rfl, rfl⟩
            go_wp2_with fail
            refine (C3.out).mono ?_
            rintro e _ ⟨rfl, rfl⟩
            go_wp2_with fail
            refine (C2.out).mono ?_
            rintro e _ ⟨rfl, rfl⟩
            go_wp2_with fail
            refine (G.out).mono ?_
            rintro e _ ⟨rfl, rfl⟩
            go_wp2_with fail
            go_ret2
            exact ⟨by rw [HD.out]; rfl, rfl⟩
end Go.Proofs.YtmolmpgampmolaaGreat
/-
  Walks: types.printed, Check, and the reference's.
  Conditions: none.
-/
namespace Go.Proofs.YtmolmpgampmolaaGreat
set_option linter.unusedVariables false
set_option linter.unusedSimpArgs false
open Go.RowKit
theorem seen_all {l : List UInt8} (h : ∀ i, i < l.length → Ty.seen (l.getD i 0) = true) : l.all Ty.seen = true := by
  rw [List.all_eq_true]
  intro x hx
  obtain ⟨i, hi, rfl⟩ := List.getElem_of_mem hx
  have := h i hi
  simpa [List.getD, hi] using this
theorem seen_not {l : List UInt8} {i : Nat} (hi : i < l.length) (h : Ty.seen (l.getD i 0) = false) : l.all Ty.seen = false := by
  cases hb : l.all Ty.seen with
  | false => rfl
  | true =>
    rw [List.all_eq_true] at hb
    have := hb l[i] (List.getElem_mem hi)
    rw [show l.getD i 0 = l[i] by simp [List.getD, hi]] at h
    rw [h] at this
    cases this
set_option maxHeartbeats 1000000 in
theorem printed_any {A : Option Addr} {n c B : Nat} {l : List UInt8} (w : World) (hb : RB w B A n c l) : Calls Tryz.prog 123 #[.slice A n c] w fun e w' => e = .returned (.bool (l.all Ty.seen)) ∧ w = w' := by
  have hn := hb.lt
  have HL := Lib.hid hb.len
  go_enter Tryz.func123, Tryz.ntmps123
  go_wp2_with fail
  go_loop [7] (fun i => ∃ k : Nat, k ≤ n ∧ i = .int .i64 k ∧ ∀ j, j < k → Ty.seen (l.getD j 0) = true) (fun i => n - (intOf i).toNat)
  case atStart => exact ⟨0, by omega, rfl, fun j hj => absurd hj (by omega)⟩
  case round =>
    obtain ⟨k, hk, rfl, hall⟩ := hrel
    have HA := Lib.hid hall; clear hall
    by_cases hlt : k < n
    · obtain ⟨b, o, rfl, hbB, hc⟩ := hb.at_ (show 0 < n by omega)
      have hck := hc k hlt
      have hx := byte_lt (l.getD k 0)
      generalize hxe : l.getD k 0 = x at *
      have HX := Lib.hid hxe; clear hxe hc hb
      rcases (show x.toNat < 32 ∨ (32 ≤ x.toNat ∧ 126 < x.toNat) ∨ (32 ≤ x.toNat ∧ x.toNat ≤ 126) by omega) with h | ⟨h1, h2⟩ | ⟨h1, h2⟩
      · go_wp2_with fail
        go_ret
        refine ⟨?_, rfl⟩
        rw [seen_not (i := k) (by have := HL.out; omega) (by rw [HX.out]; exact decide_eq_false (by omega))]
        rfl
      · go_wp2_with fail
        go_ret
        refine ⟨?_, rfl⟩
        rw [seen_not (i := k) (by have := HL.out; omega) (by rw [HX.out]; exact decide_eq_false (by omega))]
        rfl
      · go_wp2_with fail
        go_round
        case rel =>
          refine ⟨k + 1, by omega, by go_num, fun j hj => ?_⟩
          rcases Nat.lt_or_ge j k with h | h
          · exact HA.out j h
          · obtain rfl : j = k := by omega
            rw [HX.out]; exact decide_eq_true ⟨h1, h2⟩
        case measure => simp [intOf] <;> omega
    · obtain rfl : k = n := by omega
      have HS := Lib.hid (seen_all (l := l) fun i hi => HA.out i (by have := HL.out; omega))
      go_wp2_with fail
      go_ret
      exact ⟨by rw [HS.out]; rfl, rfl⟩
theorem chk_val (t most : Int) (l : List UInt8) : Ty.checkS t most l = if (Ty.kd t).name = [] then 15 else if 0 < (Ty.kd t).bits then (Ty.decS t l).2 else if most < (l.length : Int) ∨ 256 < (l.length : Int) then 3 else if t = 9 ∧ l.all Ty.seen = false then 4 else 0 := rfl
set_option maxRecDepth 100000 in
set_option maxHeartbeats 4000000 in
theorem Check_any {A : Option Addr} {n c B : Nat} {l : List UInt8} (t most : Int) (w : World) (hb : RB w B A n c l) (hB : B ≤ w.heap.size) :
    Calls Tryz.prog 77 #[.int .i64 t, .int .i64 most, .slice A n c] w fun e w' => e = .returned (.int .i64 (Ty.checkS t most l)) ∧ Below w.heap.size w w' := by
  have hl := hb.len
  have hn := hb.lt
  have C := of_any t w
  have D := fun (w1 : World) (h : Below w.heap.size w w1) => Decode_any t w1 (hb.below (h.mono hB)) (Nat.le_trans hB h.size)
  have P := fun (w1 : World) (h : Below w.heap.size w w1) => printed_any w1 (hb.below (h.mono hB))
  have hv := chk_val t most l
  rw [hl] at hv
  rcases kd_named t with h | h
  · rw [if_neg h] at hv
    generalize Ty.checkS t most l = v at *
    generalize Ty.decS t l = d at *
    generalize l.all Ty.seen = se at *
    obtain ⟨dv, de⟩ := d
    generalize (Ty.kd t).name = nm at *
    generalize (Ty.kd t).sgn = sg at *
    generalize (Ty.kd t).size = sz at *
    generalize (Ty.kd t).bits = bt at *
    dsimp only at hv
    have h1 : nm.isEmpty = false := by simpa using h
    have h2 := T_toList nm
    have h3 : T nm ≠ T [] := T_ne h
    have h4 : (nm == []) = false := by simpa using h
    replace C := Lib.hid C; replace D := Lib.hid D; replace P := Lib.hid P
    clear h hl
    by_cases hbt : 0 < bt
    · rw [if_pos hbt] at hv
      subst hv
      go_enter Tryz.func77, Tryz.ntmps77
      go_wp2_with fail
      refine (C.out).mono ?_
      rintro e w1 ⟨rfl, b1⟩
      have b2 := b1.alloc b1.size (.cells #[.string (T nm), .int .i64 (sz : Int), .int .i64 (bt : Int), .bool sg] 107)
      go_wp2_with fail
      refine (D.out _ b2).mono ?_
      rintro e w3 ⟨rfl, b3⟩
      go_wp2_with fail
      go_ret
      exact ⟨rfl, below_step b2 b3 (Nat.le_refl _)⟩
    · rw [if_neg hbt] at hv
      obtain rfl : bt = 0 := by omega
      by_cases hbig : most < (n : Int) ∨ 256 < (n : Int)
      · rw [if_pos hbig] at hv
        subst hv
        rcases (show (most ≤ 256 ∧ most < (n : Int)) ∨ (256 < most ∧ 256 < n) by omega) with ⟨m1, m2⟩ | ⟨m1, m2⟩
        all_goals
          clear hbig
          go_enter Tryz.func77, Tryz.ntmps77
          go_wp2_with fail
          refine (C.out).mono ?_
          rintro e w1 ⟨rfl, b1⟩
          have b2 := b1.alloc b1.size (.cells #[.string (T nm), .int .i64 (sz : Int), .int .i64 ((0 : Nat) : Int), .bool sg] 107)
          go_wp2_with fail
          go_ret
          exact ⟨rfl, b2⟩
      · rw [if_neg hbig] at hv
        have m1 : (n : Int) ≤ most := by omega
        have m2 : (n : Int) ≤ 256 := by omega
        clear hbig
        by_cases ht : t = 9
        · subst ht
          have HV := Lib.hid hv; clear hv
          by_cases hmm : most ≤ 256
          all_goals
            go_enter Tryz.func77, Tryz.ntmps77
            go_wp2_with fail
            refine (C.out).mono ?_
            rintro e w1 ⟨rfl, b1⟩
            have b2 := b1.alloc b1.size (.cells #[.string (T nm), .int .i64 (sz : Int), .int .i64 0, .bool sg] 107)
            go_wp2_with fail
            refine (P.out _ b2).mono ?_
            rintro e _ ⟨rfl, rfl⟩
            cases se with
            | true =>
              go_wp2_with fail
              go_ret
              exact ⟨by rw [HV.out]; rfl, b2⟩
            | false =>
              go_wp2_with fail
              go_ret
              exact ⟨by rw [HV.out]; rfl, b2⟩
        · rw [if_neg (fun h => ht h.1)] at hv
          subst hv
          have ht1 : (t == 9) = false := by rw [beq_eq_false_iff_ne]; exact ht
          clear ht
          by_cases hmm : most ≤ 256
          all_goals
            go_enter Tryz.func77, Tryz.ntmps77
            go_wp2_with fail
            refine (C.out).mono ?_
            rintro e w1 ⟨rfl, b1⟩
            have b2 := b1.alloc b1.size (.cells #[.string (T nm), .int .i64 (sz : Int), .int .i64 0, .bool sg] 107)
            go_wp2_with fail
            go_ret
            exact ⟨rfl, b2⟩
  · rw [h, if_pos (show Ty.kd0.name = [] from rfl)] at hv
    rw [h] at C
    unfold Ty.kd0 at C
    dsimp only at C
    rw [show T [] = (⟨#[]⟩ : ByteArray) from rfl, show ((0 : Nat) : Int) = 0 from rfl] at C
    rw [hv]
    replace C := Lib.hid C
    clear hv h D P hl
    go_enter Tryz.func77, Tryz.ntmps77
    go_wp2_with fail
    refine (C.out).mono ?_
    rintro e w1 ⟨rfl, b1⟩
    have b2 := b1.alloc b1.size (.cells #[.string ⟨#[]⟩, .int .i64 0, .int .i64 0, .bool false] 107)
    go_wp2_with fail
    go_ret
    exact ⟨rfl, b2⟩
set_option maxRecDepth 100000 in
set_option maxHeartbeats 4000000 in
theorem RCheckT_any {A : Option Addr} {n c B : Nat} {l : List UInt8} (t most : Int) (w : World) (hb : RB w B A n c l) :
    Calls Tryz.prog 63 #[.int .i64 t, .int .i64 most, .slice A n c] w fun e w' => e = .returned (.int .i64 (Ty.checkS t most l)) ∧ w = w' := by
  have hl := hb.len
  have hn := hb.lt
  have C1 := RKnown_any t w
  have C2 := RTBits_any t w
  have D := RDecode_any t w hb
  have hv := chk_val t most l
  rw [hl] at hv
  unfold knownB at C1
  have HL := Lib.hid hl
  by_cases h : (Ty.kd t).name = []
  · rw [if_pos h] at hv
    rw [h] at C1
    rw [hv]
    simp only [List.isEmpty_nil, Bool.not_true] at C1
    replace C1 := Lib.hid C1
    clear hv h D C2 hl
    go_enter Tryz.func63, Tryz.ntmps63
    go_wp2_with fail
    refine (C1.out).mono ?_
    rintro e _ ⟨rfl, rfl⟩
    go_wp2_with fail
    go_ret
    exact ⟨rfl, rfl⟩
  · rw [if_neg h] at hv
    have h1 : (Ty.kd t).name.isEmpty = false := by simpa using h
    rw [h1, Bool.not_false] at C1
    generalize Ty.checkS t most l = v at *
    generalize Ty.decS t l = d at *
    obtain ⟨dv, de⟩ := d
    generalize (Ty.kd t).bits = bt at *
    dsimp only at hv
    replace C1 := Lib.hid C1; replace C2 := Lib.hid C2; replace D := Lib.hid D
    clear h h1 hl
    by_cases hbt : 0 < bt
    · rw [if_pos hbt] at hv
      subst hv
      go_enter Tryz.func63, Tryz.ntmps63
      go_wp2_with fail
      refine (C1.out).mono ?_
      rintro e _ ⟨rfl, rfl⟩
      go_wp2_with fail
      refine (C2.out).mono ?_
      rintro e _ ⟨rfl, rfl⟩
      go_wp2_with fail
      refine (D.out).mono ?_
      rintro e _ ⟨rfl, rfl⟩
      go_wp2_with fail
      go_ret
      exact ⟨rfl, rfl⟩
    · rw [if_neg hbt] at hv
      obtain rfl : bt = 0 := by omega
      by_cases hbig : most < (n : Int) ∨ 256 < (n : Int)
      · rw [if_pos hbig] at hv
        subst hv
        rcases (show most < (n : Int) ∨ ((n : Int) ≤ most ∧ 256 < n) by omega) with m1 | ⟨m1, m2⟩
        all_goals
          clear hbig
          go_enter Tryz.func63, Tryz.ntmps63
          go_wp2_with fail
          refine (C1.out).mono ?_
          rintro e _ ⟨rfl, rfl⟩
          go_wp2_with fail
          refine (C2.out).mono ?_
          rintro e _ ⟨rfl, rfl⟩
          go_wp2_with fail
          go_ret
          exact ⟨rfl, rfl⟩
      · rw [if_neg hbig] at hv
        have m1 : (n : Int) ≤ most := by omega
        have m2 : (n : Int) ≤ 256 := by omega
        have HV := Lib.hid hv
        clear hbig hv
        go_enter Tryz.func63, Tryz.ntmps63
        go_wp2_with fail
        refine (C1.out).mono ?_
        rintro e _ ⟨rfl, rfl⟩
        go_wp2_with fail
        refine (C2.out).mono ?_
        rintro e _ ⟨rfl, rfl⟩
        go_wp2_with fail
        go_loop [9] (fun i => ∃ k : Nat, k ≤ n ∧ i = .int .i64 k ∧ ∀ j, j < k → t = 9 → Ty.seen (l.getD j 0) = true) (fun i => n - (intOf i).toNat)
        case atStart => exact ⟨0, by omega, rfl, fun j hj => absurd hj (by omega)⟩
        case round =>
          obtain ⟨k, hk, rfl, hall⟩ := hrel
          have HA := Lib.hid hall; clear hall
          by_cases hlt : k < n
          · obtain ⟨b, o, rfl, hbB, hc⟩ := hb.at_ (show 0 < n by omega)
            have hck := hc k hlt
            have hx := byte_lt (l.getD k 0)
            generalize hxe : l.getD k 0 = x at *
            have HX := Lib.hid hxe; clear hxe hc
            by_cases ht : t = 9
            · subst ht
              rcases (show x.toNat < 32 ∨ (32 ≤ x.toNat ∧ 126 < x.toNat) ∨ (32 ≤ x.toNat ∧ x.toNat ≤ 126) by omega) with h | ⟨h1, h2⟩ | ⟨h1, h2⟩
              · go_wp2_with fail
                go_ret
                refine ⟨?_, rfl⟩
                rw [HV.out, seen_not (i := k) (by have := HL.out; omega) (by rw [HX.out]; exact decide_eq_false (by omega))]
                rfl
              · go_wp2_with fail
                go_ret
                refine ⟨?_, rfl⟩
                rw [HV.out, seen_not (i := k) (by have := HL.out; omega) (by rw [HX.out]; exact decide_eq_false (by omega))]
                rfl
              · go_wp2_with fail
                go_round
                case rel =>
                  refine ⟨k + 1, by omega, by go_num, fun j hj _ => ?_⟩
                  rcases Nat.lt_or_ge j k with h | h
                  · exact HA.out j h rfl
                  · obtain rfl : j = k := by omega
                    rw [HX.out]; exact decide_eq_true ⟨h1, h2⟩
                case measure => simp [intOf] <;> omega
            · have ht1 : (t == 9) = false := by rw [beq_eq_false_iff_ne]; exact ht
              have HT := Lib.hid ht; clear ht
              go_wp2_with fail
              go_round
              case rel => exact ⟨k + 1, by omega, by go_num, fun j hj h => absurd h HT.out⟩
              case measure => simp [intOf] <;> omega
          · obtain rfl : k = n := by omega
            have HS : Hid (v = 0) := by
              refine Lib.hid ?_
              rw [HV.out]
              by_cases ht : t = 9
              · rw [if_neg]
                rw [seen_all (l := l) fun i hi => HA.out i (by have := HL.out; omega) ht]
                simp
              · rw [if_neg fun h => ht h.1]
            go_wp2_with fail
            go_ret
            exact ⟨by rw [HS.out]; rfl, rfl⟩
end Go.Proofs.YtmolmpgampmolaaGreat
/-
  Walks: values of entries, program and reference.
  Conditions: none.
-/
namespace Go.Proofs.YtmolmpgampmolaaGreat
set_option linter.unusedVariables false
set_option linter.unusedSimpArgs false
open Go.RowKit
set_option maxRecDepth 100000 in
set_option maxHeartbeats 4000000 in
theorem enumber_any (e : Ent.En) (A : Option Addr) (n c : Nat) {A' : Option Addr} {n' c' B : Nat} {l : List UInt8} (w : World) (hb : RB w B A' n' c' l) (hB : B ≤ w.heap.size) : Calls Tryz.prog 117 #[enV e A n c, .slice A' n' c'] w fun x w' => x = .returned (.int .u32 (Ent.numS e l)) ∧ Below w.heap.size w w' := by
  obtain ⟨ix, sb, nm, ty, ac, mp, st, mx, lo, hi, df⟩ := e
  unfold enV
  dsimp only
  have D := Decode_any ty (w.alloc (.cells #[.int .i64 ix, .int .i64 sb, .string (T nm), .int .i64 ty, .int .i64 ac, .bool mp, .bool st, .int .i64 mx, .int .i64 lo, .int .i64 hi, .slice A n c] 31)) (hb.alloc hB _) (by simp; omega)
  have hv : Ent.numS ⟨ix, sb, nm, ty, ac, mp, st, mx, lo, hi, df⟩ l = if (Ty.decS ty l).2 = 2 then 101122067 else if (Ty.decS ty l).2 = 3 then 101122066 else if (Ty.decS ty l).2 ≠ 0 then 101253168 else if (Ty.decS ty l).1 < lo then 101253170 else if hi < (Ty.decS ty l).1 then 101253169 else 0 := rfl
  rw [hv]
  generalize (Ty.decS ty l).1 = z at *
  generalize (Ty.decS ty l).2 = f at *
  replace D := Lib.hid D
  clear hv hb
  by_cases h2 : f = 2
  · subst h2
    rw [if_pos rfl]
    go_enter Tryz.func117, Tryz.ntmps117
    go_wp2_with fail
    refine (D.out).mono ?_
    rintro e w1 ⟨rfl, b1⟩
    have K1 := (Blk.made b1).eleven
    have d1 := below_step (alloc_one _ _) b1 (Nat.le_refl _)
    go_wp2_with fail
    go_ret
    exact ⟨rfl, d1⟩
  rw [if_neg h2]
  have e2 : (f == 2) = false := beq_false_of_ne h2
  by_cases h3 : f = 3
  · subst h3
    rw [if_pos rfl]
    go_enter Tryz.func117, Tryz.ntmps117
    go_wp2_with fail
    refine (D.out).mono ?_
    rintro e w1 ⟨rfl, b1⟩
    have K1 := (Blk.made b1).eleven
    have d1 := below_step (alloc_one _ _) b1 (Nat.le_refl _)
    go_wp2_with fail
    go_ret
    exact ⟨rfl, d1⟩
  rw [if_neg h3]
  have e3 : (f == 3) = false := beq_false_of_ne h3
  by_cases h0 : f = 0
  · subst h0
    rw [if_neg (by decide)]
    by_cases h4 : z < lo
    · rw [if_pos h4]
      go_enter Tryz.func117, Tryz.ntmps117
      go_wp2_with fail
      refine (D.out).mono ?_
      rintro e w1 ⟨rfl, b1⟩
      have K1 := (Blk.made b1).eleven
      have d1 := below_step (alloc_one _ _) b1 (Nat.le_refl _)
      go_wp2_with fail
      go_ret
      exact ⟨rfl, d1⟩
    rw [if_neg h4]
    by_cases h5 : hi < z
    · rw [if_pos h5]
      go_enter Tryz.func117, Tryz.ntmps117
      go_wp2_with fail
      refine (D.out).mono ?_
      rintro e w1 ⟨rfl, b1⟩
      have K1 := (Blk.made b1).eleven
      have d1 := below_step (alloc_one _ _) b1 (Nat.le_refl _)
      go_wp2_with fail
      go_ret
      exact ⟨rfl, d1⟩
    rw [if_neg h5]
    go_enter Tryz.func117, Tryz.ntmps117
    go_wp2_with fail
    refine (D.out).mono ?_
    rintro e w1 ⟨rfl, b1⟩
    have K1 := (Blk.made b1).eleven
    have d1 := below_step (alloc_one _ _) b1 (Nat.le_refl _)
    go_wp2_with fail
    go_ret
    exact ⟨rfl, d1⟩
  rw [if_pos h0]
  have e0 : (f != 0) = true := by simpa using h0
  have e0' : (f == 0) = false := beq_false_of_ne h0
  clear h2 h3 h0
  go_enter Tryz.func117, Tryz.ntmps117
  go_wp2_with fail
  refine (D.out).mono ?_
  rintro e w1 ⟨rfl, b1⟩
  have K1 := (Blk.made b1).eleven
  have d1 := below_step (alloc_one _ _) b1 (Nat.le_refl _)
  go_wp2_with fail
  go_ret
  exact ⟨rfl, d1⟩
set_option maxRecDepth 100000 in
set_option maxHeartbeats 4000000 in
theorem EValue_any (e : Ent.En) (A : Option Addr) (n c : Nat) {A' : Option Addr} {n' c' B : Nat} {l : List UInt8} (w : World) (hb : RB w B A' n' c' l) (hB : B ≤ w.heap.size) : Calls Tryz.prog 74 #[enV e A n c, .slice A' n' c'] w fun x w' => x = .returned (.int .u32 (Ent.valS e l)) ∧ Below w.heap.size w w' := by
  have hval : Ent.valS e l = if 0 < (Ty.kd e.type).bits then Ent.numS e l else if Ty.checkS e.type e.max l = 0 then 0 else if Ty.checkS e.type e.max l = 3 then 101122066 else if Ty.checkS e.type e.max l = 4 then 101253168 else 100925511 := rfl
  rw [hval]
  have N := fun (w1 : World) (h : Below w.heap.size w w1) => enumber_any e A n c w1 (hb.below (h.mono hB)) (Nat.le_trans hB h.size)
  have C := fun (w1 : World) (h : Below w.heap.size w w1) => Check_any e.type e.max w1 (hb.below (h.mono hB)) (Nat.le_trans hB h.size)
  generalize Ent.numS e l = num at *
  generalize Ty.checkS e.type e.max l = ck at *
  obtain ⟨ix, sb, nm, ty, ac, mp, st, mx, lo, hi, df⟩ := e
  unfold enV
  unfold enV at N
  dsimp only at *
  have TB := fun w => TBits_any ty w
  replace N := Lib.hid N; replace C := Lib.hid C; replace TB := Lib.hid TB
  clear hval hb
  generalize (Ty.kd ty).bits = bt at *
  by_cases hbt : 0 < bt
  · rw [if_pos hbt]
    go_enter Tryz.func74, Tryz.ntmps74
    go_wp2_with fail
    refine (TB.out _).mono ?_
    rintro e w1 ⟨rfl, b1⟩
    have K1 := (Blk.made b1).eleven
    have d1 := below_step (alloc_one _ _) b1 (Nat.le_refl _)
    go_wp2_with fail
    refine (N.out _ d1).mono ?_
    rintro e w2 ⟨rfl, b2⟩
    go_wp2_with fail
    go_ret
    exact ⟨rfl, below_step d1 b2 (Nat.le_refl _)⟩
  rw [if_neg hbt]
  have ebt : bt = 0 := by omega
  subst ebt
  clear hbt
  by_cases h0 : ck = 0
  · subst h0
    simp only [Int.reduceEq, if_true, if_false]
    go_enter Tryz.func74, Tryz.ntmps74
    go_wp2_with fail
    refine (TB.out _).mono ?_
    rintro e w1 ⟨rfl, b1⟩
    have K1 := (Blk.made b1).eleven
    have d1 := below_step (alloc_one _ _) b1 (Nat.le_refl _)
    go_wp2_with fail
    refine (C.out _ d1).mono ?_
    rintro e w2 ⟨rfl, b2⟩
    go_wp2_with fail
    go_ret
    exact ⟨rfl, below_step d1 b2 (Nat.le_refl _)⟩
  by_cases h3 : ck = 3
  · subst h3
    simp only [Int.reduceEq, if_true, if_false]
    go_enter Tryz.func74, Tryz.ntmps74
    go_wp2_with fail
    refine (TB.out _).mono ?_
    rintro e w1 ⟨rfl, b1⟩
    have K1 := (Blk.made b1).eleven
    have d1 := below_step (alloc_one _ _) b1 (Nat.le_refl _)
    go_wp2_with fail
    refine (C.out _ d1).mono ?_
    rintro e w2 ⟨rfl, b2⟩
    go_wp2_with fail
    go_ret
    exact ⟨rfl, below_step d1 b2 (Nat.le_refl _)⟩
  by_cases h4 : ck = 4
  · subst h4
    simp only [Int.reduceEq, if_true, if_false]
    go_enter Tryz.func74, Tryz.ntmps74
    go_wp2_with fail
    refine (TB.out _).mono ?_
    rintro e w1 ⟨rfl, b1⟩
    have K1 := (Blk.made b1).eleven
    have d1 := below_step (alloc_one _ _) b1 (Nat.le_refl _)
    go_wp2_with fail
    refine (C.out _ d1).mono ?_
    rintro e w2 ⟨rfl, b2⟩
    go_wp2_with fail
    go_ret
    exact ⟨rfl, below_step d1 b2 (Nat.le_refl _)⟩
  rw [if_neg h0, if_neg h3, if_neg h4]
  have e0 : (ck == 0) = false := beq_false_of_ne h0
  have e3 : (ck == 3) = false := beq_false_of_ne h3
  have e4 : (ck == 4) = false := beq_false_of_ne h4
  clear h0 h3 h4
  go_enter Tryz.func74, Tryz.ntmps74
  go_wp2_with fail
  refine (TB.out _).mono ?_
  rintro e w1 ⟨rfl, b1⟩
  have K1 := (Blk.made b1).eleven
  have d1 := below_step (alloc_one _ _) b1 (Nat.le_refl _)
  go_wp2_with fail
  refine (C.out _ d1).mono ?_
  rintro e w2 ⟨rfl, b2⟩
  go_wp2_with fail
  go_ret
  exact ⟨rfl, below_step d1 b2 (Nat.le_refl _)⟩
set_option maxRecDepth 100000 in
set_option maxHeartbeats 4000000 in
theorem RValue_any (e : Ent.En) (A : Option Addr) (n c : Nat) {A' : Option Addr} {n' c' B : Nat} {l : List UInt8} (w : World) (hb : RB w B A' n' c' l) (hB : B ≤ w.heap.size) : Calls Tryz.prog 65 #[enV e A n c, .slice A' n' c'] w fun x w' => x = .returned (.int .u32 (Ent.valS e l)) ∧ Below w.heap.size w w' := by
  obtain ⟨ix, sb, nm, ty, ac, mp, st, mx, lo, hi, df⟩ := e
  unfold enV
  dsimp only
  have K0 := fun w => RKnown_any ty w
  unfold knownB at K0
  by_cases hn : (Ty.kd ty).name = []
  · have hval : Ent.valS ⟨ix, sb, nm, ty, ac, mp, st, mx, lo, hi, df⟩ l = 100925511 := Ent.val_known hn
    rw [hval]
    rw [hn] at K0
    replace K0 := Lib.hid K0
    clear hval hn hb
    go_enter Tryz.func65, Tryz.ntmps65
    go_wp2_with fail
    refine (K0.out _).mono ?_
    rintro e _ ⟨rfl, rfl⟩
    go_wp2_with fail
    go_ret
    exact ⟨rfl, alloc_one _ _⟩
  have hk : (!(Ty.kd ty).name.isEmpty) = true := by
    cases h : (Ty.kd ty).name with
    | nil => exact absurd h hn
    | cons a b => rfl
  rw [hk] at K0
  have TB := fun w => RTBits_any ty w
  have D := RDecode_any ty (w.alloc (.cells #[.int .i64 ix, .int .i64 sb, .string (T nm), .int .i64 ty, .int .i64 ac, .bool mp, .bool st, .int .i64 mx, .int .i64 lo, .int .i64 hi, .slice A n c] 31)) (hb.alloc hB _)
  have C := RCheckT_any ty mx (w.alloc (.cells #[.int .i64 ix, .int .i64 sb, .string (T nm), .int .i64 ty, .int .i64 ac, .bool mp, .bool st, .int .i64 mx, .int .i64 lo, .int .i64 hi, .slice A n c] 31)) (hb.alloc hB _)
  have hval : Ent.valS ⟨ix, sb, nm, ty, ac, mp, st, mx, lo, hi, df⟩ l = if 0 < (Ty.kd ty).bits then Ent.numS ⟨ix, sb, nm, ty, ac, mp, st, mx, lo, hi, df⟩ l else if Ty.checkS ty mx l = 0 then 0 else if Ty.checkS ty mx l = 3 then 101122066 else if Ty.checkS ty mx l = 4 then 101253168 else 100925511 := rfl
  have hv : Ent.numS ⟨ix, sb, nm, ty, ac, mp, st, mx, lo, hi, df⟩ l = if (Ty.decS ty l).2 = 2 then 101122067 else if (Ty.decS ty l).2 = 3 then 101122066 else if (Ty.decS ty l).2 ≠ 0 then 101253168 else if (Ty.decS ty l).1 < lo then 101253170 else if hi < (Ty.decS ty l).1 then 101253169 else 0 := rfl
  have hck : ¬ 0 < (Ty.kd ty).bits → Ty.checkS ty mx l = 0 ∨ Ty.checkS ty mx l = 3 ∨ Ty.checkS ty mx l = 4 := fun h => by
    rcases Ent.check_bits (most := mx) (b := l) h with h1 | h1
    · exact absurd h1.2 hn
    · exact h1.2
  rw [hval, hv]
  generalize (Ty.decS ty l).1 = z at *
  generalize (Ty.decS ty l).2 = f at *
  generalize Ty.checkS ty mx l = ck at *
  generalize (Ty.kd ty).bits = bt at *
  replace K0 := Lib.hid K0; replace TB := Lib.hid TB; replace D := Lib.hid D; replace C := Lib.hid C
  clear hval hv hb hn hk
  by_cases hbt : 0 < bt
  · rw [if_pos hbt]
    clear hck
    by_cases h2 : f = 2
    · subst h2
      rw [if_pos rfl]
      go_enter Tryz.func65, Tryz.ntmps65
      go_wp2_with fail
      refine (K0.out _).mono ?_
      rintro e _ ⟨rfl, rfl⟩
      go_wp2_with fail
      refine (TB.out _).mono ?_
      rintro e _ ⟨rfl, rfl⟩
      go_wp2_with fail
      refine (D.out).mono ?_
      rintro e _ ⟨rfl, rfl⟩
      go_wp2_with fail
      go_ret
      exact ⟨rfl, alloc_one _ _⟩
    rw [if_neg h2]
    have e2 : (f == 2) = false := beq_false_of_ne h2
    by_cases h3 : f = 3
    · subst h3
      rw [if_pos rfl]
      go_enter Tryz.func65, Tryz.ntmps65
      go_wp2_with fail
      refine (K0.out _).mono ?_
      rintro e _ ⟨rfl, rfl⟩
      go_wp2_with fail
      refine (TB.out _).mono ?_
      rintro e _ ⟨rfl, rfl⟩
      go_wp2_with fail
      refine (D.out).mono ?_
      rintro e _ ⟨rfl, rfl⟩
      go_wp2_with fail
      go_ret
      exact ⟨rfl, alloc_one _ _⟩
    rw [if_neg h3]
    have e3 : (f == 3) = false := beq_false_of_ne h3
    by_cases h0 : f = 0
    · subst h0
      rw [if_neg (by decide)]
      by_cases h4 : z < lo
      · rw [if_pos h4]
        go_enter Tryz.func65, Tryz.ntmps65
        go_wp2_with fail
        refine (K0.out _).mono ?_
        rintro e _ ⟨rfl, rfl⟩
        go_wp2_with fail
        refine (TB.out _).mono ?_
        rintro e _ ⟨rfl, rfl⟩
        go_wp2_with fail
        refine (D.out).mono ?_
        rintro e _ ⟨rfl, rfl⟩
        go_wp2_with fail
        go_ret
        exact ⟨rfl, alloc_one _ _⟩
      rw [if_neg h4]
      by_cases h5 : hi < z
      · rw [if_pos h5]
        go_enter Tryz.func65, Tryz.ntmps65
        go_wp2_with fail
        refine (K0.out _).mono ?_
        rintro e _ ⟨rfl, rfl⟩
        go_wp2_with fail
        refine (TB.out _).mono ?_
        rintro e _ ⟨rfl, rfl⟩
        go_wp2_with fail
        refine (D.out).mono ?_
        rintro e _ ⟨rfl, rfl⟩
        go_wp2_with fail
        go_ret
        exact ⟨rfl, alloc_one _ _⟩
      rw [if_neg h5]
      go_enter Tryz.func65, Tryz.ntmps65
      go_wp2_with fail
      refine (K0.out _).mono ?_
      rintro e _ ⟨rfl, rfl⟩
      go_wp2_with fail
      refine (TB.out _).mono ?_
      rintro e _ ⟨rfl, rfl⟩
      go_wp2_with fail
      refine (D.out).mono ?_
      rintro e _ ⟨rfl, rfl⟩
      go_wp2_with fail
      go_ret
      exact ⟨rfl, alloc_one _ _⟩
    rw [if_pos h0]
    have e0 : (f != 0) = true := by simpa using h0
    have e0' : (f == 0) = false := beq_false_of_ne h0
    clear h2 h3 h0
    go_enter Tryz.func65, Tryz.ntmps65
    go_wp2_with fail
    refine (K0.out _).mono ?_
    rintro e _ ⟨rfl, rfl⟩
    go_wp2_with fail
    refine (TB.out _).mono ?_
    rintro e _ ⟨rfl, rfl⟩
    go_wp2_with fail
    refine (D.out).mono ?_
    rintro e _ ⟨rfl, rfl⟩
    go_wp2_with fail
    go_ret
    exact ⟨rfl, alloc_one _ _⟩
  rw [if_neg hbt]
  have hck2 := hck hbt
  have ebt : bt = 0 := by omega
  subst ebt
  clear hbt hck
  rcases hck2 with rfl | rfl | rfl
  all_goals
    simp only [Int.reduceEq, if_true, if_false]
    go_enter Tryz.func65, Tryz.ntmps65
    go_wp2_with fail
    refine (K0.out _).mono ?_
    rintro e _ ⟨rfl, rfl⟩
    go_wp2_with fail
    refine (TB.out _).mono ?_
    rintro e _ ⟨rfl, rfl⟩
    go_wp2_with fail
    refine (C.out).mono ?_
    rintro e _ ⟨rfl, rfl⟩
    go_wp2_with fail
    go_ret
    exact ⟨rfl, alloc_one _ _⟩
end Go.Proofs.YtmolmpgampmolaaGreat
