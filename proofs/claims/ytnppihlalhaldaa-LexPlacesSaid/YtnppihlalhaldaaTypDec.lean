/-
  Walks: types.Decode, and the reference's.
  Conditions: none.
-/
import Derived.Test.YtnppihlalhaldaaTypCode
namespace Go.Proofs.Ytnppihlalhaldaa
set_option linter.unusedVariables false
set_option linter.unusedSimpArgs false
open Go.RowKit
theorem getS_all {l : List UInt8} {k : Nat} (h : l.length = k) (h1 : 1 ≤ k) (h2 : k ≤ 8) : Oct.getS l 0 (k : Int) = (Oct.le l, 0) := by
  unfold Oct.getS
  rw [if_pos (by omega), if_neg (by omega), Int.toNat_natCast, show (0 : Int).toNat = 0 from rfl]
  subst h
  simp [Oct.cut]
theorem getIntS_all {l : List UInt8} {k : Nat} (h : l.length = k) (h1 : 1 ≤ k) (h2 : k ≤ 8) : Oct.getIntS l 0 (k : Int) = (Oct.sgn (Oct.le l) (8 * k), 0) := by
  unfold Oct.getIntS
  rw [getS_all h h1 h2, if_pos rfl, Int.toNat_natCast]
set_option maxRecDepth 100000 in
set_option maxHeartbeats 4000000 in
theorem Decode_any {A : Option Addr} {n c B : Nat} {l : List UInt8} (t : Int) (w : World) (hb : RB w B A n c l) (hB : B ≤ w.heap.size) :
    Calls Try.prog 41 #[.int .i64 t, .slice A n c] w fun e w' => e = .returned (.tuple #[.int .i64 (Ty.decS t l).1, .int .i64 (Ty.decS t l).2]) ∧ Below w.heap.size w w' := by
  have hl := hb.len
  have hn := hb.lt
  have C := of_any t w
  have hk := kd_num t
  have hd : Ty.decS t l = if (Ty.kd t).bits = 0 then (0, 15) else if l.length < (Ty.kd t).size then (0, 2) else if (Ty.kd t).size < l.length then (0, 3)
    else if (Ty.kd t).sgn = true then (Oct.sgn (Oct.le l) (8 * (Ty.kd t).size), 0) else if 2 ^ (Ty.kd t).bits ≤ Oct.le l then (0, 9) else ((Oct.le l : Int), 0) := rfl
  generalize (Ty.kd t).name = nm at *
  generalize (Ty.kd t).sgn = sg at *
  generalize (Ty.kd t).size = sz at *
  generalize (Ty.kd t).bits = bt at *
  generalize Ty.decS t l = d at *
  rw [hl] at hd
  replace C := Lib.hid C
  have HL := Lib.hid hl; clear hl
  by_cases h0 : bt = 0
  · subst h0
    rw [if_pos rfl] at hd
    have HD := Lib.hid hd; clear hd hk
    go_enter Try.func41, Try.ntmps41
    go_wp2_with fail
    refine (C.out).mono ?_
    rintro e w1 ⟨rfl, b1⟩
    go_wp2_with fail
    go_ret2
    exact ⟨by rw [HD.out]; rfl, b1.alloc b1.size _⟩
  · rw [if_neg h0] at hd
    have hbz : ((bt : Int) == 0) = false := by rw [beq_eq_false_iff_ne]; omega
    by_cases hlt : n < sz
    · rw [if_pos hlt] at hd
      have HD := Lib.hid hd; clear hd hk h0
      go_enter Try.func41, Try.ntmps41
      go_wp2_with fail
      refine (C.out).mono ?_
      rintro e w1 ⟨rfl, b1⟩
      go_wp2_with fail
      go_ret2
      exact ⟨by rw [HD.out]; rfl, b1.alloc b1.size _⟩
    · rw [if_neg hlt] at hd
      by_cases hgt : sz < n
      · rw [if_pos hgt] at hd
        have HD := Lib.hid hd; clear hd hk h0
        go_enter Try.func41, Try.ntmps41
        go_wp2_with fail
        refine (C.out).mono ?_
        rintro e w1 ⟨rfl, b1⟩
        go_wp2_with fail
        go_ret2
        exact ⟨by rw [HD.out]; rfl, b1.alloc b1.size _⟩
      · rw [if_neg hgt] at hd
        obtain rfl : n = sz := by omega
        rcases hk with ⟨h, _⟩ | ⟨rfl, e1, e2, e3⟩ | ⟨rfl, e1, e2, e3, e4, e5⟩
        · exact absurd h h0
        · rw [if_pos rfl] at hd
          have HD := Lib.hid hd; clear hd h0
          have G := fun (w1 : World) (h : Below w.heap.size w w1) => GetInt_any 0 (n : Int) w1 (hb.below (h.mono hB))
          rw [getIntS_all HL.out e2 e3] at G
          dsimp only at G
          replace G := Lib.hid G
          clear e1
          go_enter Try.func41, Try.ntmps41
          go_wp2_with fail
          refine (C.out).mono ?_
          rintro e w1 ⟨rfl, b1⟩
          have b2 := b1.alloc b1.size (.cells #[.string (T nm), .int .i64 (n : Int), .int .i64 (bt : Int), .bool true] 71)
          go_wp2_with fail
          refine (G.out _ b2).mono ?_
          rintro e _ ⟨rfl, rfl⟩
          go_wp2_with fail
          go_ret2
          exact ⟨by rw [HD.out]; rfl, b2⟩
        · rw [if_neg (by decide)] at hd
          have hle := Oct.le_lt l
          rw [HL.out] at hle
          have hle2 : Oct.le l < 4294967296 := Nat.lt_of_lt_of_le hle (Nat.le_trans (Nat.pow_le_pow_right (by decide) e4) (by decide))
          have G := fun (w1 : World) (h : Below w.heap.size w w1) => Get_any 0 (n : Int) w1 (hb.below (h.mono hB))
          rw [getS_all HL.out e3 (by omega)] at G
          dsimp only at G
          replace G := Lib.hid G
          generalize Oct.le l = v at *
          by_cases hw : 2 ^ bt ≤ v
          · rw [if_pos hw] at hd
            have HD := Lib.hid hd; clear hd h0
            have hbt : bt < 8 * n := by
              rcases Nat.lt_or_ge bt (8 * n) with h | h
              · exact h
              · obtain rfl : bt = 8 * n := by omega
                rw [pow_256] at hle
                omega
            have ht : ((v : Int) / 2 ^ bt != 0) = true := by
              rw [show (v : Int) / 2 ^ bt = ((v / 2 ^ bt : Nat) : Int) by simp, bne_iff_ne]
              have := Nat.div_pos hw (Nat.pow_pos (by decide))
              omega
            clear hle hw e5
            go_enter Try.func41, Try.ntmps41
            go_wp2_with fail
            refine (C.out).mono ?_
            rintro e w1 ⟨rfl, b1⟩
            have b2 := b1.alloc b1.size (.cells #[.string (T nm), .int .i64 (n : Int), .int .i64 (bt : Int), .bool false] 71)
            go_wp2_with fail
            refine (G.out _ b2).mono ?_
            rintro e _ ⟨rfl, rfl⟩
            go_wp2_with fail
            go_ret2
            exact ⟨by rw [HD.out]; rfl, b2⟩
          · rw [if_neg hw] at hd
            have HD := Lib.hid hd; clear hd h0
            have ht : ((v : Int) / 2 ^ bt != 0) = false := by
              rw [show (v : Int) / 2 ^ bt = ((v / 2 ^ bt : Nat) : Int) by simp, bne_eq_false_iff_eq, Nat.div_eq_of_lt (by omega)]
              rfl
            clear hle hw e5
            by_cases hbt : bt < 8 * n
            all_goals
              go_enter Try.func41, Try.ntmps41
              go_wp2_with fail
              refine (C.out).mono ?_
              rintro e w1 ⟨rfl, b1⟩
              have b2 := b1.alloc b1.size (.cells #[.string (T nm), .int .i64 (n : Int), .int .i64 (bt : Int), .bool false] 71)
              go_wp2_with fail
              refine (G.out _ b2).mono ?_
              rintro e _ ⟨rfl, rfl⟩
              go_wp2_with fail
              go_ret2
              exact ⟨by rw [HD.out]; rfl, b2⟩
set_option maxRecDepth 100000 in
set_option maxHeartbeats 4000000 in
theorem RDecode_any {A : Option Addr} {n c B : Nat} {l : List UInt8} (t : Int) (w : World) (hb : RB w B A n c l) :
    Calls Try.prog 65 #[.int .i64 t, .slice A n c] w fun e w' => e = .returned (.tuple #[.int .i64 (Ty.decS t l).1, .int .i64 (Ty.decS t l).2]) ∧ w = w' := by
  have hl := hb.len
  have hn := hb.lt
  have C1 := RTBits_any t w
  have C2 := RSize_any t w
  have C3 := RSigned_any t w
  have hk := kd_num t
  have hk1 : t = 1 → (Ty.kd t).bits = 1 := by rintro rfl; rfl
  have hd : Ty.decS t l = if (Ty.kd t).bits = 0 then (0, 15) else if l.length < (Ty.kd t).size then (0, 2) else if (Ty.kd t).size < l.length then (0, 3)
    else if (Ty.kd t).sgn = true then (Oct.sgn (Oct.le l) (8 * (Ty.kd t).size), 0) else if 2 ^ (Ty.kd t).bits ≤ Oct.le l then (0, 9) else ((Oct.le l : Int), 0) := rfl
  generalize (Ty.kd t).sgn = sg at *
  generalize (Ty.kd t).size = sz at *
  generalize (Ty.kd t).bits = bt at *
  generalize Ty.decS t l = d at *
  rw [hl] at hd
  replace C1 := Lib.hid C1; replace C2 := Lib.hid C2; replace C3 := Lib.hid C3
  have HL := Lib.hid hl; clear hl
  have HK1 := Lib.hid hk1; clear hk1
  by_cases h0 : bt = 0
  · subst h0
    rw [if_pos rfl] at hd
    have HD := Lib.hid hd; clear hd hk
    go_enter Try.func65, Try.ntmps65
    go_wp2_with fail
    refine (C1.out).mono ?_
    rintro e _ ⟨rfl, rfl⟩
    go_wp2_with fail
    go_ret2
    exact ⟨by rw [HD.out]; rfl, rfl⟩
  · rw [if_neg h0] at hd
    have hbz : ((bt : Int) == 0) = false := by rw [beq_eq_false_iff_ne]; omega
    by_cases hlt : n < sz
    · rw [if_pos hlt] at hd
      have HD := Lib.hid hd; clear hd hk h0
      go_enter Try.func65, Try.ntmps65
      go_wp2_with fail
      refine (C1.out).mono ?_
      rintro e _ ⟨rfl, rfl⟩
      go_wp2_with fail
      refine (C2.out).mono ?_
      rintro e _ ⟨rfl, rfl⟩
      go_wp2_with fail
      go_ret2
      exact ⟨by rw [HD.out]; rfl, rfl⟩
    · rw [if_neg hlt] at hd
      by_cases hgt : sz < n
      · rw [if_pos hgt] at hd
        have HD := Lib.hid hd; clear hd hk h0
        go_enter Try.func65, Try.ntmps65
        go_wp2_with fail
        refine (C1.out).mono ?_
        rintro e _ ⟨rfl, rfl⟩
        go_wp2_with fail
        refine (C2.out).mono ?_
        rintro e _ ⟨rfl, rfl⟩
        go_wp2_with fail
        refine (C2.out).mono ?_
        rintro e _ ⟨rfl, rfl⟩
        go_wp2_with fail
        go_ret2
        exact ⟨by rw [HD.out]; rfl, rfl⟩
      · rw [if_neg hgt] at hd
        obtain rfl : n = sz := by omega
        rcases hk with ⟨h, _⟩ | ⟨rfl, e1, e2, e3⟩ | ⟨rfl, e1, e2, e3, e4, e5⟩
        · exact absurd h h0
        · rw [if_pos rfl] at hd
          have HD := Lib.hid hd; clear hd h0
          have G := RGetInt_any 0 (n : Int) w hb
          rw [getIntS_all HL.out e2 e3] at G
          dsimp only at G
          replace G := Lib.hid G
          clear e1
          go_enter Try.func65, Try.ntmps65
          go_wp2_with fail
          refine (C1.out).mono ?_
          rintro e _ ⟨rfl, rfl⟩
          go_wp2_with fail
          refine (C2.out).mono ?_
          rintro e _ ⟨rfl, rfl⟩
          go_wp2_with fail
          refine (C2.out).mono ?_
          rintro e _ ⟨rfl, rfl⟩
          go_wp2_with fail
          refine (C3.out).mono ?_
          rintro e _ ⟨rfl, rfl⟩
          go_wp2_with fail
          refine (C2.out).mono ?_
          rintro e _ ⟨rfl, rfl⟩
          go_wp2_with fail
          refine (G.out).mono ?_
          rintro e _ ⟨rfl, rfl⟩
          go_wp2_with fail
          go_ret2
          exact ⟨by rw [HD.out]; rfl, rfl⟩
        · rw [if_neg (by decide)] at hd
          have hle := Oct.le_lt l
          rw [HL.out] at hle
          have hle2 : Oct.le l < 4294967296 := Nat.lt_of_lt_of_le hle (Nat.le_trans (Nat.pow_le_pow_right (by decide) e4) (by decide))
          have G := RGet_any 0 (n : Int) w hb
          rw [getS_all HL.out e3 (by omega)] at G
          dsimp only at G
          replace G := Lib.hid G
          generalize Oct.le l = v at *
          rcases (show (t = 1 ∧ 1 < v ∧ 2 ^ bt ≤ v) ∨ (t = 1 ∧ v ≤ 1 ∧ ¬ 2 ^ bt ≤ v) ∨ (t ≠ 1 ∧ ¬ 2 ^ bt ≤ v) by
            by_cases ht : t = 1
            · have hb1 := HK1.out ht
              subst hb1
              by_cases hv : 1 < v
              · exact .inl ⟨ht, hv, by omega⟩
              · exact .inr (.inl ⟨ht, by omega, by omega⟩)
            · right; right
              refine ⟨ht, ?_⟩
              rcases e5 with e5 | e5
              · rw [e5, ← pow_256]; omega
              · exact absurd e5.2 ht) with ⟨rfl, hv, hw⟩ | ⟨rfl, hv, hw⟩ | ⟨ht, hw⟩
          · rw [if_pos hw] at hd
            have HD := Lib.hid hd; clear hd h0 hw hle e5
            go_enter Try.func65, Try.ntmps65
            go_wp2_with fail
            refine (C1.out).mono ?_
            rintro e _ ⟨rfl, rfl⟩
            go_wp2_with fail
            refine (C2.out).mono ?_
            rintro e _ ⟨rfl, rfl⟩
            go_wp2_with fail
            refine (C2.out).mono ?_
            rintro e _ ⟨rfl, rfl⟩
            go_wp2_with fail
            refine (C3.out).mono ?_
            rintro e _ ⟨rfl, rfl⟩
            go_wp2_with fail
            refine (C2.out).mono ?_
            rintro e _ ⟨rfl, rfl⟩
            go_wp2_with fail
            refine (G.out).mono ?_
            rintro e _ ⟨rfl, rfl⟩
            go_wp2_with fail
            go_ret2
            exact ⟨by rw [HD.out]; rfl, rfl⟩
          · rw [if_neg hw] at hd
            have HD := Lib.hid hd; clear hd h0 hw hle e5
            go_enter Try.func65, Try.ntmps65
            go_wp2_with fail
            refine (C1.out).mono ?_
            rintro e _ ⟨rfl, rfl⟩
            go_wp2_with fail
            refine (C2.out).mono ?_
            rintro e _ ⟨rfl, rfl⟩
            go_wp2_with fail
            refine (C2.out).mono ?_
            rintro e _ ⟨rfl, rfl⟩
            go_wp2_with fail
            refine (C3.out).mono ?_
            rintro e _ ⟨rfl, rfl⟩
            go_wp2_with fail
            refine (C2.out).mono ?_
            rintro e _ ⟨rfl, rfl⟩
            go_wp2_with fail
            refine (G.out).mono ?_
            rintro e _ ⟨rfl, rfl⟩
            go_wp2_with fail
            go_ret2
            exact ⟨by rw [HD.out]; rfl, rfl⟩
          · rw [if_neg hw] at hd
            have HD := Lib.hid hd; clear hd h0 hw hle e5
            have ht1 : (t == 1) = false := by rw [beq_eq_false_iff_ne]; exact ht
            clear ht
            go_enter Try.func65, Try.ntmps65
            go_wp2_with fail
            refine (C1.out).mono ?_
            rintro e _ ⟨rfl, rfl⟩
            go_wp2_with fail
            refine (C2.out).mono ?_
            rintro e _ ⟨rfl, rfl⟩
            go_wp2_with fail
            refine (C2.out).mono ?_
            rintro e _ ⟨rfl, rfl⟩
            go_wp2_with fail
            refine (C3.out).mono ?_
            rintro e _ ⟨rfl, rfl⟩
            go_wp2_with fail
            refine (C2.out).mono ?_
            rintro e _ ⟨rfl, rfl⟩
            go_wp2_with fail
            refine (G.out).mono ?_
            rintro e _ ⟨rfl, rfl⟩
            go_wp2_with fail
            go_ret2
            exact ⟨by rw [HD.out]; rfl, rfl⟩
end Go.Proofs.Ytnppihlalhaldaa
