/-
  Texts joined: TypDec, TypChk, EntVal, EntRight, EntBef.
  Conditions: none.
-/
import Derived.Test.YtmolmpgampmolaaJ08
import Derived.Test.YtmolmpgampmolaaJ10
/-
  Walks: types.Decode, and the reference's.
  Conditions: none.
-/
namespace Go.Proofs.Ytmolmpgampmolaa
set_option linter.unusedVariables false
set_option linter.unusedSimpArgs false
open Go.RowKit
theorem getS_all {l : List UInt8} {k : Nat} (h : l.length = k) (h1 : 1 ≤ k) (h2 : k ≤ 8) : Oct.getS l 0 (k : Int) = (Oct.le l, 0) := by
  unfold Oct.getS
  rw [if_pos (by omega), if_neg (by omega), Int.toNat_natCast, show (0 : Int).toNat = 0 from rfl]
  subst h
  simp [Oct.cut]
theorem getIntS_all {l : List UInt8} {k : Nat} (h : l.length = k) (h1 : 1 ≤ k) (h2 : k ≤ 8) : Oct.getIntS l 0 (k : Int) = (Oct.sgn (Oct.le l) (8 * k), 0) := by
  unfold Oct.getIntS
  rw [getS_all h h1 h2, if_pos rfl, Int.toNat_natCast]
set_option maxRecDepth 100000 in
set_option maxHeartbeats 4000000 in
theorem Decode_any {A : Option Addr} {n c B : Nat} {l : List UInt8} (t : Int) (w : World) (hb : RB w B A n c l) (hB : B ≤ w.heap.size) :
    Calls Try.prog 61 #[.int .i64 t, .slice A n c] w fun e w' => e = .returned (.tuple #[.int .i64 (Ty.decS t l).1, .int .i64 (Ty.decS t l).2]) ∧ Below w.heap.size w w' := by
  have hl := hb.len
  have hn := hb.lt
  have C := of_any t w
  have hk := kd_num t
  have hd : Ty.decS t l = if (Ty.kd t).bits = 0 then (0, 15) else if l.length < (Ty.kd t).size then (0, 2) else if (Ty.kd t).size < l.length then (0, 3)
    else if (Ty.kd t).sgn = true then (Oct.sgn (Oct.le l) (8 * (Ty.kd t).size), 0) else if 2 ^ (Ty.kd t).bits ≤ Oct.le l then (0, 9) else ((Oct.le l : Int), 0) := rfl
  generalize (Ty.kd t).name = nm at *
  generalize (Ty.kd t).sgn = sg at *
  generalize (Ty.kd t).size = sz at *
  generalize (Ty.kd t).bits = bt at *
  generalize Ty.decS t l = d at *
  rw [hl] at hd
  replace C := Lib.hid C
  have HL := Lib.hid hl; clear hl
  by_cases h0 : bt = 0
  · subst h0
    rw [if_pos rfl] at hd
    have HD := Lib.hid hd; clear hd hk
    go_enter Try.func61, Try.ntmps61
    go_wp2_with fail
    refine (C.out).mono ?_
    rintro e w1 ⟨rfl, b1⟩
    go_wp2_with fail
    go_ret2
    exact ⟨by rw [HD.out]; rfl, b1.alloc b1.size _⟩
  · rw [if_neg h0] at hd
    have hbz : ((bt : Int) == 0) = false := by rw [beq_eq_false_iff_ne]; omega
    by_cases hlt : n < sz
    · rw [if_pos hlt] at hd
      have HD := Lib.hid hd; clear hd hk h0
      go_enter Try.func61, Try.ntmps61
      go_wp2_with fail
      refine (C.out).mono ?_
      rintro e w1 ⟨rfl, b1⟩
      go_wp2_with fail
      go_ret2
      exact ⟨by rw [HD.out]; rfl, b1.alloc b1.size _⟩
    · rw [if_neg hlt] at hd
      by_cases hgt : sz < n
      · rw [if_pos hgt] at hd
        have HD := Lib.hid hd; clear hd hk h0
        go_enter Try.func61, Try.ntmps61
        go_wp2_with fail
        refine (C.out).mono ?_
        rintro e w1 ⟨rfl, b1⟩
        go_wp2_with fail
        go_ret2
        exact ⟨by rw [HD.out]; rfl, b1.alloc b1.size _⟩
      · rw [if_neg hgt] at hd
        obtain rfl : n = sz := by omega
        rcases hk with ⟨h, _⟩ | ⟨rfl, e1, e2, e3⟩ | ⟨rfl, e1, e2, e3, e4, e5⟩
        · exact absurd h h0
        · rw [if_pos rfl] at hd
          have HD := Lib.hid hd; clear hd h0
          have G := fun (w1 : World) (h : Below w.heap.size w w1) => GetInt_any 0 (n : Int) w1 (hb.below (h.mono hB))
          rw [getIntS_all HL.out e2 e3] at G
          dsimp only at G
          replace G := Lib.hid G
          clear e1
          go_enter Try.func61, Try.ntmps61
          go_wp2_with fail
          refine (C.out).mono ?_
          rintro e w1 ⟨rfl, b1⟩
          have b2 := b1.alloc b1.size (.cells #[.string (T nm), .int .i64 (n : Int), .int .i64 (bt : Int), .bool true] 89)
          go_wp2_with fail
          refine (G.out _ b2).mono ?_
          rintro e _ ⟨rfl, rfl⟩
          go_wp2_with fail
          go_ret2
          exact ⟨by rw [HD.out]; rfl, b2⟩
        · rw [if_neg (by decide)] at hd
          have hle := Oct.le_lt l
          rw [HL.out] at hle
          have hle2 : Oct.le l < 4294967296 := Nat.lt_of_lt_of_le hle (Nat.le_trans (Nat.pow_le_pow_right (by decide) e4) (by decide))
          have G := fun (w1 : World) (h : Below w.heap.size w w1) => Get_any 0 (n : Int) w1 (hb.below (h.mono hB))
          rw [getS_all HL.out e3 (by omega)] at G
          dsimp only at G
          replace G := Lib.hid G
          generalize Oct.le l = v at *
          by_cases hw : 2 ^ bt ≤ v
          · rw [if_pos hw] at hd
            have HD := Lib.hid hd; clear hd h0
            have hbt : bt < 8 * n := by
              rcases Nat.lt_or_ge bt (8 * n) with h | h
              · exact h
              · obtain rfl : bt = 8 * n := by omega
                rw [pow_256] at hle
                omega
            have ht : ((v : Int) / 2 ^ bt != 0) = true := by
              rw [show (v : Int) / 2 ^ bt = ((v / 2 ^ bt : Nat) : Int) by simp, bne_iff_ne]
              have := Nat.div_pos hw (Nat.pow_pos (by decide))
              omega
            clear hle hw e5
            go_enter Try.func61, Try.ntmps61
            go_wp2_with fail
            refine (C.out).mono ?_
            rintro e w1 ⟨rfl, b1⟩
            have b2 := b1.alloc b1.size (.cells #[.string (T nm), .int .i64 (n : Int), .int .i64 (bt : Int), .bool false] 89)
            go_wp2_with fail
            refine (G.out _ b2).mono ?_
            rintro e _ ⟨rfl, rfl⟩
            go_wp2_with fail
            go_ret2
            exact ⟨by rw [HD.out]; rfl, b2⟩
          · rw [if_neg hw] at hd
            have HD := Lib.hid hd; clear hd h0
            have ht : ((v : Int) / 2 ^ bt != 0) = false := by
              rw [show (v : Int) / 2 ^ bt = ((v / 2 ^ bt : Nat) : Int) by simp, bne_eq_false_iff_eq, Nat.div_eq_of_lt (by omega)]
              rfl
            clear hle hw e5
            by_cases hbt : bt < 8 * n
            all_goals
              go_enter Try.func61, Try.ntmps61
              go_wp2_with fail
              refine (C.out).mono ?_
              rintro e w1 ⟨rfl, b1⟩
              have b2 := b1.alloc b1.size (.cells #[.string (T nm), .int .i64 (n : Int), .int .i64 (bt : Int), .bool false] 89)
              go_wp2_with fail
              refine (G.out _ b2).mono ?_
              rintro e _ ⟨rfl, rfl⟩
              go_wp2_with fail
              go_ret2
              exact ⟨by rw [HD.out]; rfl, b2⟩
end Go.Proofs.Ytmolmpgampmolaa
/-
  Walks: types.printed, Check, and the reference's.
  Conditions: none.
-/
namespace Go.Proofs.Ytmolmpgampmolaa
set_option linter.unusedVariables false
set_option linter.unusedSimpArgs false
open Go.RowKit
theorem seen_all {l : List UInt8} (h : ∀ i, i < l.length → Ty.seen (l.getD i 0) = true) : l.all Ty.seen = true := by
  rw [List.all_eq_true]
  intro x hx
  obtain ⟨i, hi, rfl⟩ := List.getElem_of_mem hx
  have := h i hi
  simpa [List.getD, hi] using this
theorem seen_not {l : List UInt8} {i : Nat} (hi : i < l.length) (h : Ty.seen (l.getD i 0) = false) : l.all Ty.seen = false := by
  cases hb : l.all Ty.seen with
  | false => rfl
  | true =>
    rw [List.all_eq_true] at hb
    have := hb l[i] (List.getElem_mem hi)
    rw [show l.getD i 0 = l[i] by simp [List.getD, hi]] at h
    rw [h] at this
    cases this
set_option maxHeartbeats 1000000 in
theorem printed_any {A : Option Addr} {n c B : Nat} {l : List UInt8} (w : World) (hb : RB w B A n c l) : Calls Try.prog 77 #[.slice A n c] w fun e w' => e = .returned (.bool (l.all Ty.seen)) ∧ w = w' := by
  have hn := hb.lt
  have HL := Lib.hid hb.len
  go_enter Try.func77, Try.ntmps77
  go_wp2_with fail
  go_loop [7] (fun i => ∃ k : Nat, k ≤ n ∧ i = .int .i64 k ∧ ∀ j, j < k → Ty.seen (l.getD j 0) = true) (fun i => n - (intOf i).toNat)
  case atStart => exact ⟨0, by omega, rfl, fun j hj => absurd hj (by omega)⟩
  case round =>
    obtain ⟨k, hk, rfl, hall⟩ := hrel
    have HA := Lib.hid hall; clear hall
    by_cases hlt : k < n
    · obtain ⟨b, o, rfl, hbB, hc⟩ := hb.at_ (show 0 < n by omega)
      have hck := hc k hlt
      have hx := byte_lt (l.getD k 0)
      generalize hxe : l.getD k 0 = x at *
      have HX := Lib.hid hxe; clear hxe hc hb
      rcases (show x.toNat < 32 ∨ (32 ≤ x.toNat ∧ 126 < x.toNat) ∨ (32 ≤ x.toNat ∧ x.toNat ≤ 126) by omega) with h | ⟨h1, h2⟩ | ⟨h1, h2⟩
      · go_wp2_with fail
        go_ret
        refine ⟨?_, rfl⟩
        rw [seen_not (i := k) (by have := HL.out; omega) (by rw [HX.out]; exact decide_eq_false (by omega))]
        rfl
      · go_wp2_with fail
        go_ret
        refine ⟨?_, rfl⟩
        rw [seen_not (i := k) (by have := HL.out; omega) (by rw [HX.out]; exact decide_eq_false (by omega))]
        rfl
      · go_wp2_with fail
        go_round
        case rel =>
          refine ⟨k + 1, by omega, by go_num, fun j hj => ?_⟩
          rcases Nat.lt_or_ge j k with h | h
          · exact HA.out j h
          · obtain rfl : j = k := by omega
            rw [HX.out]; exact decide_eq_true ⟨h1, h2⟩
        case measure => simp [intOf] <;> omega
    · obtain rfl : k = n := by omega
      have HS := Lib.hid (seen_all (l := l) fun i hi => HA.out i (by have := HL.out; omega))
      go_wp2_with fail
      go_ret
      exact ⟨by rw [HS.out]; rfl, rfl⟩
theorem chk_val (t most : Int) (l : List UInt8) : Ty.checkS t most l = if (Ty.kd t).name = [] then 15 else if 0 < (Ty.kd t).bits then (Ty.decS t l).2 else if most < (l.length : Int) ∨ 256 < (l.length : Int) then 3 else if t = 9 ∧ l.all Ty.seen = false then 4 else 0 := rfl
set_option maxRecDepth 100000 in
set_option maxHeartbeats 4000000 in
theorem Check_any {A : Option Addr} {n c B : Nat} {l : List UInt8} (t most : Int) (w : World) (hb : RB w B A n c l) (hB : B ≤ w.heap.size) :
    Calls Try.prog 59 #[.int .i64 t, .int .i64 most, .slice A n c] w fun e w' => e = .returned (.int .i64 (Ty.checkS t most l)) ∧ Below w.heap.size w w' := by
  have hl := hb.len
  have hn := hb.lt
  have C := of_any t w
  have D := fun (w1 : World) (h : Below w.heap.size w w1) => Decode_any t w1 (hb.below (h.mono hB)) (Nat.le_trans hB h.size)
  have P := fun (w1 : World) (h : Below w.heap.size w w1) => printed_any w1 (hb.below (h.mono hB))
  have hv := chk_val t most l
  rw [hl] at hv
  rcases kd_named t with h | h
  · rw [if_neg h] at hv
    generalize Ty.checkS t most l = v at *
    generalize Ty.decS t l = d at *
    generalize l.all Ty.seen = se at *
    obtain ⟨dv, de⟩ := d
    generalize (Ty.kd t).name = nm at *
    generalize (Ty.kd t).sgn = sg at *
    generalize (Ty.kd t).size = sz at *
    generalize (Ty.kd t).bits = bt at *
    dsimp only at hv
    have h1 : nm.isEmpty = false := by simpa using h
    have h2 := T_toList nm
    have h3 : T nm ≠ T [] := T_ne h
    have h4 : (nm == []) = false := by simpa using h
    replace C := Lib.hid C; replace D := Lib.hid D; replace P := Lib.hid P
    clear h hl
    by_cases hbt : 0 < bt
    · rw [if_pos hbt] at hv
      subst hv
      go_enter Try.func59, Try.ntmps59
      go_wp2_with fail
      refine (C.out).mono ?_
      rintro e w1 ⟨rfl, b1⟩
      have b2 := b1.alloc b1.size (.cells #[.string (T nm), .int .i64 (sz : Int), .int .i64 (bt : Int), .bool sg] 89)
      go_wp2_with fail
      refine (D.out _ b2).mono ?_
      rintro e w3 ⟨rfl, b3⟩
      go_wp2_with fail
      go_ret
      exact ⟨rfl, below_step b2 b3 (Nat.le_refl _)⟩
    · rw [if_neg hbt] at hv
      obtain rfl : bt = 0 := by omega
      by_cases hbig : most < (n : Int) ∨ 256 < (n : Int)
      · rw [if_pos hbig] at hv
        subst hv
        rcases (show (most ≤ 256 ∧ most < (n : Int)) ∨ (256 < most ∧ 256 < n) by omega) with ⟨m1, m2⟩ | ⟨m1, m2⟩
        all_goals
          clear hbig
          go_enter Try.func59, Try.ntmps59
          go_wp2_with fail
          refine (C.out).mono ?_
          rintro e w1 ⟨rfl, b1⟩
          have b2 := b1.alloc b1.size (.cells #[.string (T nm), .int .i64 (sz : Int), .int .i64 ((0 : Nat) : Int), .bool sg] 89)
          go_wp2_with fail
          go_ret
          exact ⟨rfl, b2⟩
      · rw [if_neg hbig] at hv
        have m1 : (n : Int) ≤ most := by omega
        have m2 : (n : Int) ≤ 256 := by omega
        clear hbig
        by_cases ht : t = 9
        · subst ht
          have HV := Lib.hid hv; clear hv
          by_cases hmm : most ≤ 256
          all_goals
            go_enter Try.func59, Try.ntmps59
            go_wp2_with fail
            refine (C.out).mono ?_
            rintro e w1 ⟨rfl, b1⟩
            have b2 := b1.alloc b1.size (.cells #[.string (T nm), .int .i64 (sz : Int), .int .i64 0, .bool sg] 89)
            go_wp2_with fail
            refine (P.out _ b2).mono ?_
            rintro e _ ⟨rfl, rfl⟩
            cases se with
            | true =>
              go_wp2_with fail
              go_ret
              exact ⟨by rw [HV.out]; rfl, b2⟩
            | false =>
              go_wp2_with fail
              go_ret
              exact ⟨by rw [HV.out]; rfl, b2⟩
        · rw [if_neg (fun h => ht h.1)] at hv
          subst hv
          have ht1 : (t == 9) = false := by rw [beq_eq_false_iff_ne]; exact ht
          clear ht
          by_cases hmm : most ≤ 256
          all_goals
            go_enter Try.func59, Try.ntmps59
            go_wp2_with fail
            refine (C.out).mono ?_
            rintro e w1 ⟨rfl, b1⟩
            have b2 := b1.alloc b1.size (.cells #[.string (T nm), .int .i64 (sz : Int), .int .i64 0, .bool sg] 89)
            go_wp2_with fail
            go_ret
            exact ⟨rfl, b2⟩
  · rw [h, if_pos (show Ty.kd0.name = [] from rfl)] at hv
    rw [h] at C
    unfold Ty.kd0 at C
    dsimp only at C
    rw [show T [] = (⟨#[]⟩ : ByteArray) from rfl, show ((0 : Nat) : Int) = 0 from rfl] at C
    rw [hv]
    replace C := Lib.hid C
    clear hv h D P hl
    go_enter Try.func59, Try.ntmps59
    go_wp2_with fail
    refine (C.out).mono ?_
    rintro e w1 ⟨rfl, b1⟩
    have b2 := b1.alloc b1.size (.cells #[.string ⟨#[]⟩, .int .i64 0, .int .i64 0, .bool false] 89)
    go_wp2_with fail
    go_ret
    exact ⟨rfl, b2⟩
end Go.Proofs.Ytmolmpgampmolaa
/-
  Walks: values of entries, program and reference.
  Conditions: none.
-/
namespace Go.Proofs.Ytmolmpgampmolaa
set_option linter.unusedVariables false
set_option linter.unusedSimpArgs false
open Go.RowKit
set_option maxRecDepth 100000 in
set_option maxHeartbeats 4000000 in
theorem enumber_any (e : Ent.En) (A : Option Addr) (n c : Nat) {A' : Option Addr} {n' c' B : Nat} {l : List UInt8} (w : World) (hb : RB w B A' n' c' l) (hB : B ≤ w.heap.size) : Calls Try.prog 71 #[enV e A n c, .slice A' n' c'] w fun x w' => x = .returned (.int .u32 (Ent.numS e l)) ∧ Below w.heap.size w w' := by
  obtain ⟨ix, sb, nm, ty, ac, mp, st, mx, lo, hi, df⟩ := e
  unfold enV
  dsimp only
  have D := Decode_any ty (w.alloc (.cells #[.int .i64 ix, .int .i64 sb, .string (T nm), .int .i64 ty, .int .i64 ac, .bool mp, .bool st, .int .i64 mx, .int .i64 lo, .int .i64 hi, .slice A n c] 36)) (hb.alloc hB _) (by simp; omega)
  have hv : Ent.numS ⟨ix, sb, nm, ty, ac, mp, st, mx, lo, hi, df⟩ l = if (Ty.decS ty l).2 = 2 then 101122067 else if (Ty.decS ty l).2 = 3 then 101122066 else if (Ty.decS ty l).2 ≠ 0 then 101253168 else if (Ty.decS ty l).1 < lo then 101253170 else if hi < (Ty.decS ty l).1 then 101253169 else 0 := rfl
  rw [hv]
  generalize (Ty.decS ty l).1 = z at *
  generalize (Ty.decS ty l).2 = f at *
  replace D := Lib.hid D
  clear hv hb
  by_cases h2 : f = 2
  · subst h2
    rw [if_pos rfl]
    go_enter Try.func71, Try.ntmps71
    go_wp2_with fail
    refine (D.out).mono ?_
    rintro e w1 ⟨rfl, b1⟩
    have K1 := (Blk.made b1).eleven
    have d1 := below_step (alloc_one _ _) b1 (Nat.le_refl _)
    go_wp2_with fail
    go_ret
    exact ⟨rfl, d1⟩
  rw [if_neg h2]
  have e2 : (f == 2) = false := beq_false_of_ne h2
  by_cases h3 : f = 3
  · subst h3
    rw [if_pos rfl]
    go_enter Try.func71, Try.ntmps71
    go_wp2_with fail
    refine (D.out).mono ?_
    rintro e w1 ⟨rfl, b1⟩
    have K1 := (Blk.made b1).eleven
    have d1 := below_step (alloc_one _ _) b1 (Nat.le_refl _)
    go_wp2_with fail
    go_ret
    exact ⟨rfl, d1⟩
  rw [if_neg h3]
  have e3 : (f == 3) = false := beq_false_of_ne h3
  by_cases h0 : f = 0
  · subst h0
    rw [if_neg (by decide)]
    by_cases h4 : z < lo
    · rw [if_pos h4]
      go_enter Try.func71, Try.ntmps71
      go_wp2_with fail
      refine (D.out).mono ?_
      rintro e w1 ⟨rfl, b1⟩
      have K1 := (Blk.made b1).eleven
      have d1 := below_step (alloc_one _ _) b1 (Nat.le_refl _)
      go_wp2_with fail
      go_ret
      exact ⟨rfl, d1⟩
    rw [if_neg h4]
    by_cases h5 : hi < z
    · rw [if_pos h5]
      go_enter Try.func71, Try.ntmps71
      go_wp2_with fail
      refine (D.out).mono ?_
      rintro e w1 ⟨rfl, b1⟩
      have K1 := (Blk.made b1).eleven
      have d1 := below_step (alloc_one _ _) b1 (Nat.le_refl _)
      go_wp2_with fail
      go_ret
      exact ⟨rfl, d1⟩
    rw [if_neg h5]
    go_enter Try.func71, Try.ntmps71
    go_wp2_with fail
    refine (D.out).mono ?_
    rintro e w1 ⟨rfl, b1⟩
    have K1 := (Blk.made b1).eleven
    have d1 := below_step (alloc_one _ _) b1 (Nat.le_refl _)
    go_wp2_with fail
    go_ret
    exact ⟨rfl, d1⟩
  rw [if_pos h0]
  have e0 : (f != 0) = true := by simpa using h0
  have e0' : (f == 0) = false := beq_false_of_ne h0
  clear h2 h3 h0
  go_enter Try.func71, Try.ntmps71
  go_wp2_with fail
  refine (D.out).mono ?_
  rintro e w1 ⟨rfl, b1⟩
  have K1 := (Blk.made b1).eleven
  have d1 := below_step (alloc_one _ _) b1 (Nat.le_refl _)
  go_wp2_with fail
  go_ret
  exact ⟨rfl, d1⟩
set_option maxRecDepth 100000 in
set_option maxHeartbeats 4000000 in
theorem EValue_any (e : Ent.En) (A : Option Addr) (n c : Nat) {A' : Option Addr} {n' c' B : Nat} {l : List UInt8} (w : World) (hb : RB w B A' n' c' l) (hB : B ≤ w.heap.size) : Calls Try.prog 56 #[enV e A n c, .slice A' n' c'] w fun x w' => x = .returned (.int .u32 (Ent.valS e l)) ∧ Below w.heap.size w w' := by
  have hval : Ent.valS e l = if 0 < (Ty.kd e.type).bits then Ent.numS e l else if Ty.checkS e.type e.max l = 0 then 0 else if Ty.checkS e.type e.max l = 3 then 101122066 else if Ty.checkS e.type e.max l = 4 then 101253168 else 100925511 := rfl
  rw [hval]
  have N := fun (w1 : World) (h : Below w.heap.size w w1) => enumber_any e A n c w1 (hb.below (h.mono hB)) (Nat.le_trans hB h.size)
  have C := fun (w1 : World) (h : Below w.heap.size w w1) => Check_any e.type e.max w1 (hb.below (h.mono hB)) (Nat.le_trans hB h.size)
  generalize Ent.numS e l = num at *
  generalize Ty.checkS e.type e.max l = ck at *
  obtain ⟨ix, sb, nm, ty, ac, mp, st, mx, lo, hi, df⟩ := e
  unfold enV
  unfold enV at N
  dsimp only at *
  have TB := fun w => TBits_any ty w
  replace N := Lib.hid N; replace C := Lib.hid C; replace TB := Lib.hid TB
  clear hval hb
  generalize (Ty.kd ty).bits = bt at *
  by_cases hbt : 0 < bt
  · rw [if_pos hbt]
    go_enter Try.func56, Try.ntmps56
    go_wp2_with fail
    refine (TB.out _).mono ?_
    rintro e w1 ⟨rfl, b1⟩
    have K1 := (Blk.made b1).eleven
    have d1 := below_step (alloc_one _ _) b1 (Nat.le_refl _)
    go_wp2_with fail
    refine (N.out _ d1).mono ?_
    rintro e w2 ⟨rfl, b2⟩
    go_wp2_with fail
    go_ret
    exact ⟨rfl, below_step d1 b2 (Nat.le_refl _)⟩
  rw [if_neg hbt]
  have ebt : bt = 0 := by omega
  subst ebt
  clear hbt
  by_cases h0 : ck = 0
  · subst h0
    simp only [Int.reduceEq, if_true, if_false]
    go_enter Try.func56, Try.ntmps56
    go_wp2_with fail
    refine (TB.out _).mono ?_
    rintro e w1 ⟨rfl, b1⟩
    have K1 := (Blk.made b1).eleven
    have d1 := below_step (alloc_one _ _) b1 (Nat.le_refl _)
    go_wp2_with fail
    refine (C.out _ d1).mono ?_
    rintro e w2 ⟨rfl, b2⟩
    go_wp2_with fail
    go_ret
    exact ⟨rfl, below_step d1 b2 (Nat.le_refl _)⟩
  by_cases h3 : ck = 3
  · subst h3
    simp only [Int.reduceEq, if_true, if_false]
    go_enter Try.func56, Try.ntmps56
    go_wp2_with fail
    refine (TB.out _).mono ?_
    rintro e w1 ⟨rfl, b1⟩
    have K1 := (Blk.made b1).eleven
    have d1 := below_step (alloc_one _ _) b1 (Nat.le_refl _)
    go_wp2_with fail
    refine (C.out _ d1).mono ?_
    rintro e w2 ⟨rfl, b2⟩
    go_wp2_with fail
    go_ret
    exact ⟨rfl, below_step d1 b2 (Nat.le_refl _)⟩
  by_cases h4 : ck = 4
  · subst h4
    simp only [Int.reduceEq, if_true, if_false]
    go_enter Try.func56, Try.ntmps56
    go_wp2_with fail
    refine (TB.out _).mono ?_
    rintro e w1 ⟨rfl, b1⟩
    have K1 := (Blk.made b1).eleven
    have d1 := below_step (alloc_one _ _) b1 (Nat.le_refl _)
    go_wp2_with fail
    refine (C.out _ d1).mono ?_
    rintro e w2 ⟨rfl, b2⟩
    go_wp2_with fail
    go_ret
    exact ⟨rfl, below_step d1 b2 (Nat.le_refl _)⟩
  rw [if_neg h0, if_neg h3, if_neg h4]
  have e0 : (ck == 0) = false := beq_false_of_ne h0
  have e3 : (ck == 3) = false := beq_false_of_ne h3
  have e4 : (ck == 4) = false := beq_false_of_ne h4
  clear h0 h3 h4
  go_enter Try.func56, Try.ntmps56
  go_wp2_with fail
  refine (TB.out _).mono ?_
  rintro e w1 ⟨rfl, b1⟩
  have K1 := (Blk.made b1).eleven
  have d1 := below_step (alloc_one _ _) b1 (Nat.le_refl _)
  go_wp2_with fail
  refine (C.out _ d1).mono ?_
  rintro e w2 ⟨rfl, b2⟩
  go_wp2_with fail
  go_ret
  exact ⟨rfl, below_step d1 b2 (Nat.le_refl _)⟩
end Go.Proofs.Ytmolmpgampmolaa
/-
  Walk: Right of layer 14.
  Conditions: none.
-/
namespace Go.Proofs.Ytmolmpgampmolaa
set_option linter.unusedVariables false
set_option linter.unusedSimpArgs false
open Go.RowKit
theorem lim_open {p : Int × Int × Bool} {w : World} {e : Ending} {w' : World} (h : LimPost p w e w') : e = .returned (.tuple #[.int .i64 p.1, .int .i64 p.2.1, .bool p.2.2]) ∧ Below w.heap.size w w' := h
set_option maxRecDepth 100000 in
set_option maxHeartbeats 4000000 in
theorem Right_any (e : Ent.En) {A : Option Addr} {n c B : Nat} (w : World) (hb : RB w B A n c e.dflt) (hB : B ≤ w.heap.size) (hn : e.name.length ≤ 9223372036854775807) : Calls Try.prog 22 #[enV e A n c] w fun x w' => x = .returned (.int .i64 (Ent.rightS e)) ∧ Below w.heap.size w w' := by
  obtain ⟨ix, sb, nm, ty, ac, mp, st, mx, lo, hi, df⟩ := e
  dsimp only at hb hn
  have L := fun w => Limits_any ty w
  have NM := fun w => Name_any nm w hn
  have KN := fun w => TKnown_any ty w
  have FL := fun w => flags_any ⟨ix, sb, nm, ty, ac, mp, st, mx, lo, hi, df⟩ A n c w
  have NB := fun w => numbered_any ⟨ix, sb, nm, ty, ac, mp, st, mx, lo, hi, df⟩ A n c (Ty.limS ty).1 (Ty.limS ty).2.1 w
  have SZ := fun w => sized_any ⟨ix, sb, nm, ty, ac, mp, st, mx, lo, hi, df⟩ A n c w
  have VL := fun (w1 : World) (h : Below w.heap.size w w1) => EValue_any ⟨ix, sb, nm, ty, ac, mp, st, mx, lo, hi, df⟩ A n c w1 (hb.below (h.mono hB)) (Nat.le_trans hB h.size)
  unfold knownB at KN
  unfold LimPost at L
  unfold enV at FL NB SZ VL
  dsimp only at FL NB SZ VL
  unfold enV
  dsimp only
  have hR : Ent.rightS ⟨ix, sb, nm, ty, ac, mp, st, mx, lo, hi, df⟩ = if ix < 1 ∨ 65535 < ix ∨ sb < 0 ∨ 255 < sb then 9 else if Ent.nameB nm = false then 14 else if (Ty.kd ty).name = [] then 15 else if Ent.flagsB ⟨ix, sb, nm, ty, ac, mp, st, mx, lo, hi, df⟩ = false then 1 else if Ent.limB ⟨ix, sb, nm, ty, ac, mp, st, mx, lo, hi, df⟩ = false then 1 else if Ent.valS ⟨ix, sb, nm, ty, ac, mp, st, mx, lo, hi, df⟩ df ≠ 0 then 4 else 0 := rfl
  have hLB : Ent.limB ⟨ix, sb, nm, ty, ac, mp, st, mx, lo, hi, df⟩ = if (Ty.limS ty).2.2 = true then Ent.numberedB ⟨ix, sb, nm, ty, ac, mp, st, mx, lo, hi, df⟩ (Ty.limS ty).1 (Ty.limS ty).2.1 else Ent.sizedB ⟨ix, sb, nm, ty, ac, mp, st, mx, lo, hi, df⟩ := rfl
  rw [hLB] at hR
  generalize Ent.rightS ⟨ix, sb, nm, ty, ac, mp, st, mx, lo, hi, df⟩ = res at *
  generalize Ent.flagsB ⟨ix, sb, nm, ty, ac, mp, st, mx, lo, hi, df⟩ = fb at *
  generalize Ent.numberedB ⟨ix, sb, nm, ty, ac, mp, st, mx, lo, hi, df⟩ (Ty.limS ty).1 (Ty.limS ty).2.1 = nb at *
  generalize Ent.sizedB ⟨ix, sb, nm, ty, ac, mp, st, mx, lo, hi, df⟩ = sz at *
  generalize Ent.valS ⟨ix, sb, nm, ty, ac, mp, st, mx, lo, hi, df⟩ df = vl at *
  generalize Ent.nameB nm = nmb at *
  generalize (Ty.limS ty).1 = llo at *
  generalize (Ty.limS ty).2.1 = lhi at *
  generalize (Ty.limS ty).2.2 = num at *
  clear hLB hb hn
  by_cases r1 : ix < 1
  · rw [if_pos (by omega)] at hR
    have HV := Lib.hid hR
    replace L := Lib.hid L; replace NM := Lib.hid NM; replace KN := Lib.hid KN; replace FL := Lib.hid FL; replace NB := Lib.hid NB; replace SZ := Lib.hid SZ; replace VL := Lib.hid VL
    clear hR
    go_enter Try.func22, Try.ntmps22
    go_wp2_with fail
    refine (L.out _).mono ?_
    rintro x w1 ⟨rfl, b1⟩
    have K1 := Blk.made b1
    have d1 := below_step (alloc_one _ _) b1 (Nat.le_refl _)
    have F1 := K1.eleven
    go_wp2_with fail
    go_ret
    exact ⟨by rw [HV.out]; rfl, d1⟩
  by_cases r2 : 65535 < ix
  · rw [if_pos (by omega)] at hR
    have HV := Lib.hid hR
    replace L := Lib.hid L; replace NM := Lib.hid NM; replace KN := Lib.hid KN; replace FL := Lib.hid FL; replace NB := Lib.hid NB; replace SZ := Lib.hid SZ; replace VL := Lib.hid VL
    clear hR
    go_enter Try.func22, Try.ntmps22
    go_wp2_with fail
    refine (L.out _).mono ?_
    rintro x w1 ⟨rfl, b1⟩
    have K1 := Blk.made b1
    have d1 := below_step (alloc_one _ _) b1 (Nat.le_refl _)
    have F1 := K1.eleven
    go_wp2_with fail
    go_ret
    exact ⟨by rw [HV.out]; rfl, d1⟩
  by_cases r3 : sb < 0
  · rw [if_pos (by omega)] at hR
    have HV := Lib.hid hR
    replace L := Lib.hid L; replace NM := Lib.hid NM; replace KN := Lib.hid KN; replace FL := Lib.hid FL; replace NB := Lib.hid NB; replace SZ := Lib.hid SZ; replace VL := Lib.hid VL
    clear hR
    go_enter Try.func22, Try.ntmps22
    go_wp2_with fail
    refine (L.out _).mono ?_
    rintro x w1 ⟨rfl, b1⟩
    have K1 := Blk.made b1
    have d1 := below_step (alloc_one _ _) b1 (Nat.le_refl _)
    have F1 := K1.eleven
    go_wp2_with fail
    go_ret
    exact ⟨by rw [HV.out]; rfl, d1⟩
  by_cases r4 : 255 < sb
  · rw [if_pos (by omega)] at hR
    have HV := Lib.hid hR
    replace L := Lib.hid L; replace NM := Lib.hid NM; replace KN := Lib.hid KN; replace FL := Lib.hid FL; replace NB := Lib.hid NB; replace SZ := Lib.hid SZ; replace VL := Lib.hid VL
    clear hR
    go_enter Try.func22, Try.ntmps22
    go_wp2_with fail
    refine (L.out _).mono ?_
    rintro x w1 ⟨rfl, b1⟩
    have K1 := Blk.made b1
    have d1 := below_step (alloc_one _ _) b1 (Nat.le_refl _)
    have F1 := K1.eleven
    go_wp2_with fail
    go_ret
    exact ⟨by rw [HV.out]; rfl, d1⟩
  rw [if_neg (by omega)] at hR
  cases nmb with
  | false =>
    rw [if_pos rfl] at hR
    have HV := Lib.hid hR
    replace L := Lib.hid L; replace NM := Lib.hid NM; replace KN := Lib.hid KN; replace FL := Lib.hid FL; replace NB := Lib.hid NB; replace SZ := Lib.hid SZ; replace VL := Lib.hid VL
    clear hR
    go_enter Try.func22, Try.ntmps22
    go_wp2_with fail
    refine (L.out _).mono ?_
    rintro x w1 ⟨rfl, b1⟩
    have K1 := Blk.made b1
    have d1 := below_step (alloc_one _ _) b1 (Nat.le_refl _)
    have F1 := K1.eleven
    go_wp2_with fail
    refine (NM.out _).mono ?_
    rintro x _ ⟨rfl, rfl⟩
    go_wp2_with fail
    go_ret
    exact ⟨by rw [HV.out]; rfl, d1⟩
  | true =>
  rw [if_neg (by decide)] at hR
  by_cases hk : (Ty.kd ty).name = []
  · rw [if_pos hk] at hR
    rw [hk] at KN
    have HV := Lib.hid hR
    replace L := Lib.hid L; replace NM := Lib.hid NM; replace KN := Lib.hid KN; replace FL := Lib.hid FL; replace NB := Lib.hid NB; replace SZ := Lib.hid SZ; replace VL := Lib.hid VL
    clear hR hk
    go_enter Try.func22, Try.ntmps22
    go_wp2_with fail
    refine (L.out _).mono ?_
    rintro x w1 ⟨rfl, b1⟩
    have K1 := Blk.made b1
    have d1 := below_step (alloc_one _ _) b1 (Nat.le_refl _)
    have F1 := K1.eleven
    go_wp2_with fail
    refine (NM.out _).mono ?_
    rintro x _ ⟨rfl, rfl⟩
    go_wp2_with fail
    refine (KN.out _).mono ?_
    rintro x w2 ⟨rfl, b2⟩
    replace K1 := K1.later b2
    replace d1 := below_step d1 b2 (Nat.le_refl _)
    replace F1 := K1.eleven
    go_wp2_with fail
    go_ret
    exact ⟨by rw [HV.out]; rfl, d1⟩
  rw [if_neg hk] at hR
  have hk2 : (!(Ty.kd ty).name.isEmpty) = true := by
    cases h : (Ty.kd ty).name with
    | nil => exact absurd h hk
    | cons a b => rfl
  rw [hk2] at KN
  clear hk hk2
  cases fb with
  | false =>
    rw [if_pos rfl] at hR
    have HV := Lib.hid hR
    replace L := Lib.hid L; replace NM := Lib.hid NM; replace KN := Lib.hid KN; replace FL := Lib.hid FL; replace NB := Lib.hid NB; replace SZ := Lib.hid SZ; replace VL := Lib.hid VL
    clear hR
    go_enter Try.func22, Try.ntmps22
    go_wp2_with fail
    refine (L.out _).mono ?_
    rintro x w1 ⟨rfl, b1⟩
    have K1 := Blk.made b1
    have d1 := below_step (alloc_one _ _) b1 (Nat.le_refl _)
    have F1 := K1.eleven
    go_wp2_with fail
    refine (NM.out _).mono ?_
    rintro x _ ⟨rfl, rfl⟩
    go_wp2_with fail
    refine (KN.out _).mono ?_
    rintro x w2 ⟨rfl, b2⟩
    replace K1 := K1.later b2
    replace d1 := below_step d1 b2 (Nat.le_refl _)
    replace F1 := K1.eleven
    go_wp2_with fail
    refine (FL.out _).mono ?_
    rintro x w3 ⟨rfl, b3⟩
    replace K1 := K1.later b3
    replace d1 := below_step d1 b3 (Nat.le_refl _)
    replace F1 := K1.eleven
    go_wp2_with fail
    go_ret
    exact ⟨by rw [HV.out]; rfl, d1⟩
  | true =>
  rw [if_neg (by decide)] at hR
  cases num with
  | true =>
    rw [show (if true = true then nb else sz) = nb from rfl] at hR
    cases nb with
    | false =>
      rw [if_pos rfl] at hR
      have HV := Lib.hid hR
      replace L := Lib.hid L; replace NM := Lib.hid NM; replace KN := Lib.hid KN; replace FL := Lib.hid FL; replace NB := Lib.hid NB; replace SZ := Lib.hid SZ; replace VL := Lib.hid VL
      clear hR
      go_enter Try.func22, Try.ntmps22
      go_wp2_with fail
      refine (L.out _).mono ?_
      rintro x w1 ⟨rfl, b1⟩
      have K1 := Blk.made b1
      have d1 := below_step (alloc_one _ _) b1 (Nat.le_refl _)
      have F1 := K1.eleven
      go_wp2_with fail
      refine (NM.out _).mono ?_
      rintro x _ ⟨rfl, rfl⟩
      go_wp2_with fail
      refine (KN.out _).mono ?_
      rintro x w2 ⟨rfl, b2⟩
      replace K1 := K1.later b2
      replace d1 := below_step d1 b2 (Nat.le_refl _)
      replace F1 := K1.eleven
      go_wp2_with fail
      refine (FL.out _).mono ?_
      rintro x w3 ⟨rfl, b3⟩
      replace K1 := K1.later b3
      replace d1 := below_step d1 b3 (Nat.le_refl _)
      replace F1 := K1.eleven
      go_wp2_with fail
      refine (NB.out _).mono ?_
      rintro x w4 ⟨rfl, b4⟩
      replace K1 := K1.later b4
      replace d1 := below_step d1 b4 (Nat.le_refl _)
      replace F1 := K1.eleven
      go_wp2_with fail
      go_ret
      exact ⟨by rw [HV.out]; rfl, d1⟩
    | true =>
      rw [if_neg (by decide)] at hR
      by_cases hv : vl = 0
      · subst hv
        rw [if_neg (by decide)] at hR
        have HV := Lib.hid hR
        replace L := Lib.hid L; replace NM := Lib.hid NM; replace KN := Lib.hid KN; replace FL := Lib.hid FL; replace NB := Lib.hid NB; replace SZ := Lib.hid SZ; replace VL := Lib.hid VL
        clear hR
        go_enter Try.func22, Try.ntmps22
        go_wp2_with fail
        refine (L.out _).mono ?_
        rintro x w1 ⟨rfl, b1⟩
        have K1 := Blk.made b1
        have d1 := below_step (alloc_one _ _) b1 (Nat.le_refl _)
        have F1 := K1.eleven
        go_wp2_with fail
        refine (NM.out _).mono ?_
        rintro x _ ⟨rfl, rfl⟩
        go_wp2_with fail
        refine (KN.out _).mono ?_
        rintro x w2 ⟨rfl, b2⟩
        replace K1 := K1.later b2
        replace d1 := below_step d1 b2 (Nat.le_refl _)
        replace F1 := K1.eleven
        go_wp2_with fail
        refine (FL.out _).mono ?_
        rintro x w3 ⟨rfl, b3⟩
        replace K1 := K1.later b3
        replace d1 := below_step d1 b3 (Nat.le_refl _)
        replace F1 := K1.eleven
        go_wp2_with fail
        refine (NB.out _).mono ?_
        rintro x w4 ⟨rfl, b4⟩
        replace K1 := K1.later b4
        replace d1 := below_step d1 b4 (Nat.le_refl _)
        replace F1 := K1.eleven
        go_wp2_with fail
        refine (VL.out _ d1).mono ?_
        rintro x w5 ⟨rfl, b5⟩
        replace K1 := K1.later b5
        replace d1 := below_step d1 b5 (Nat.le_refl _)
        replace F1 := K1.eleven
        go_wp2_with fail
        go_ret
        exact ⟨by rw [HV.out]; rfl, d1⟩
      · rw [if_pos hv] at hR
        have ev : (vl != 0) = true := by simpa using hv
        have HV := Lib.hid hR
        replace L := Lib.hid L; replace NM := Lib.hid NM; replace KN := Lib.hid KN; replace FL := Lib.hid FL; replace NB := Lib.hid NB; replace SZ := Lib.hid SZ; replace VL := Lib.hid VL
        clear hR hv
        go_enter Try.func22, Try.ntmps22
        go_wp2_with fail
        refine (L.out _).mono ?_
        rintro x w1 ⟨rfl, b1⟩
        have K1 := Blk.made b1
        have d1 := below_step (alloc_one _ _) b1 (Nat.le_refl _)
        have F1 := K1.eleven
        go_wp2_with fail
        refine (NM.out _).mono ?_
        rintro x _ ⟨rfl, rfl⟩
        go_wp2_with fail
        refine (KN.out _).mono ?_
        rintro x w2 ⟨rfl, b2⟩
        replace K1 := K1.later b2
        replace d1 := below_step d1 b2 (Nat.le_refl _)
        replace F1 := K1.eleven
        go_wp2_with fail
        refine (FL.out _).mono ?_
        rintro x w3 ⟨rfl, b3⟩
        replace K1 := K1.later b3
        replace d1 := below_step d1 b3 (Nat.le_refl _)
        replace F1 := K1.eleven
        go_wp2_with fail
        refine (NB.out _).mono ?_
        rintro x w4 ⟨rfl, b4⟩
        replace K1 := K1.later b4
        replace d1 := below_step d1 b4 (Nat.le_refl _)
        replace F1 := K1.eleven
        go_wp2_with fail
        refine (VL.out _ d1).mono ?_
        rintro x w5 ⟨rfl, b5⟩
        replace K1 := K1.later b5
        replace d1 := below_step d1 b5 (Nat.le_refl _)
        replace F1 := K1.eleven
        go_wp2_with fail
        go_ret
        exact ⟨by rw [HV.out]; rfl, d1⟩
  | false =>
    rw [show (if false = true then nb else sz) = sz from rfl] at hR
    cases sz with
    | false =>
      rw [if_pos rfl] at hR
      have HV := Lib.hid hR
      replace L := Lib.hid L; replace NM := Lib.hid NM; replace KN := Lib.hid KN; replace FL := Lib.hid FL; replace NB := Lib.hid NB; replace SZ := Lib.hid SZ; replace VL := Lib.hid VL
      clear hR
      go_enter Try.func22, Try.ntmps22
      go_wp2_with fail
      refine (L.out _).mono ?_
      rintro x w1 ⟨rfl, b1⟩
      have K1 := Blk.made b1
      have d1 := below_step (alloc_one _ _) b1 (Nat.le_refl _)
      have F1 := K1.eleven
      go_wp2_with fail
      refine (NM.out _).mono ?_
      rintro x _ ⟨rfl, rfl⟩
      go_wp2_with fail
      refine (KN.out _).mono ?_
      rintro x w2 ⟨rfl, b2⟩
      replace K1 := K1.later b2
      replace d1 := below_step d1 b2 (Nat.le_refl _)
      replace F1 := K1.eleven
      go_wp2_with fail
      refine (FL.out _).mono ?_
      rintro x w3 ⟨rfl, b3⟩
      replace K1 := K1.later b3
      replace d1 := below_step d1 b3 (Nat.le_refl _)
      replace F1 := K1.eleven
      go_wp2_with fail
      refine (SZ.out _).mono ?_
      rintro x w4 ⟨rfl, b4⟩
      replace K1 := K1.later b4
      replace d1 := below_step d1 b4 (Nat.le_refl _)
      replace F1 := K1.eleven
      go_wp2_with fail
      go_ret
      exact ⟨by rw [HV.out]; rfl, d1⟩
    | true =>
      rw [if_neg (by decide)] at hR
      by_cases hv : vl = 0
      · subst hv
        rw [if_neg (by decide)] at hR
        have HV := Lib.hid hR
        replace L := Lib.hid L; replace NM := Lib.hid NM; replace KN := Lib.hid KN; replace FL := Lib.hid FL; replace NB := Lib.hid NB; replace SZ := Lib.hid SZ; replace VL := Lib.hid VL
        clear hR
        go_enter Try.func22, Try.ntmps22
        go_wp2_with fail
        refine (L.out _).mono ?_
        rintro x w1 ⟨rfl, b1⟩
        have K1 := Blk.made b1
        have d1 := below_step (alloc_one _ _) b1 (Nat.le_refl _)
        have F1 := K1.eleven
        go_wp2_with fail
        refine (NM.out _).mono ?_
        rintro x _ ⟨rfl, rfl⟩
        go_wp2_with fail
        refine (KN.out _).mono ?_
        rintro x w2 ⟨rfl, b2⟩
        replace K1 := K1.later b2
        replace d1 := below_step d1 b2 (Nat.le_refl _)
        replace F1 := K1.eleven
        go_wp2_with fail
        refine (FL.out _).mono ?_
        rintro x w3 ⟨rfl, b3⟩
        replace K1 := K1.later b3
        replace d1 := below_step d1 b3 (Nat.le_refl _)
        replace F1 := K1.eleven
        go_wp2_with fail
        refine (SZ.out _).mono ?_
        rintro x w4 ⟨rfl, b4⟩
        replace K1 := K1.later b4
        replace d1 := below_step d1 b4 (Nat.le_refl _)
        replace F1 := K1.eleven
        go_wp2_with fail
        refine (VL.out _ d1).mono ?_
        rintro x w5 ⟨rfl, b5⟩
        replace K1 := K1.later b5
        replace d1 := below_step d1 b5 (Nat.le_refl _)
        replace F1 := K1.eleven
        go_wp2_with fail
        go_ret
        exact ⟨by rw [HV.out]; rfl, d1⟩
      · rw [if_pos hv] at hR
        have ev : (vl != 0) = true := by simpa using hv
        have HV := Lib.hid hR
        replace L := Lib.hid L; replace NM := Lib.hid NM; replace KN := Lib.hid KN; replace FL := Lib.hid FL; replace NB := Lib.hid NB; replace SZ := Lib.hid SZ; replace VL := Lib.hid VL
        clear hR hv
        go_enter Try.func22, Try.ntmps22
        go_wp2_with fail
        refine (L.out _).mono ?_
        rintro x w1 ⟨rfl, b1⟩
        have K1 := Blk.made b1
        have d1 := below_step (alloc_one _ _) b1 (Nat.le_refl _)
        have F1 := K1.eleven
        go_wp2_with fail
        refine (NM.out _).mono ?_
        rintro x _ ⟨rfl, rfl⟩
        go_wp2_with fail
        refine (KN.out _).mono ?_
        rintro x w2 ⟨rfl, b2⟩
        replace K1 := K1.later b2
        replace d1 := below_step d1 b2 (Nat.le_refl _)
        replace F1 := K1.eleven
        go_wp2_with fail
        refine (FL.out _).mono ?_
        rintro x w3 ⟨rfl, b3⟩
        replace K1 := K1.later b3
        replace d1 := below_step d1 b3 (Nat.le_refl _)
        replace F1 := K1.eleven
        go_wp2_with fail
        refine (SZ.out _).mono ?_
        rintro x w4 ⟨rfl, b4⟩
        replace K1 := K1.later b4
        replace d1 := below_step d1 b4 (Nat.le_refl _)
        replace F1 := K1.eleven
        go_wp2_with fail
        refine (VL.out _ d1).mono ?_
        rintro x w5 ⟨rfl, b5⟩
        replace K1 := K1.later b5
        replace d1 := below_step d1 b5 (Nat.le_refl _)
        replace F1 := K1.eleven
        go_wp2_with fail
        go_ret
        exact ⟨by rw [HV.out]; rfl, d1⟩
end Go.Proofs.Ytmolmpgampmolaa
/-
  Walks: Before of layer 14, and its reference.
  Conditions: none.
-/
namespace Go.Proofs.Ytmolmpgampmolaa
set_option linter.unusedVariables false
set_option linter.unusedSimpArgs false
open Go.RowKit
set_option maxRecDepth 100000 in
set_option maxHeartbeats 4000000 in
theorem Before_any (e e' : Ent.En) (A A' : Option Addr) (n c n' c' : Nat) (w : World) : Calls Try.prog 29 #[enV e A n c, enV e' A' n' c'] w fun x w' => x = .returned (.bool (Ent.befB e e')) ∧ Below w.heap.size w w' := by
  obtain ⟨ix, sb, nm, ty, ac, mp, st, mx, lo, hi, df⟩ := e
  unfold enV
  dsimp only
  obtain ⟨ix', sb', nm', ty', ac', mp', st', mx', lo', hi', df'⟩ := e'
  dsimp only
  by_cases h1 : ix = ix'
  · subst h1
    have hv : Ent.befB ⟨ix, sb, nm, ty, ac, mp, st, mx, lo, hi, df⟩ ⟨ix, sb', nm', ty', ac', mp', st', mx', lo', hi', df'⟩ = decide (sb < sb') := if_pos rfl
    rw [hv]
    have e1 : (ix != ix) = false := by simp
    have e2 : (ix == ix) = true := by simp
    have e3 : decide (ix < ix) = false := decide_eq_false (by omega)
    clear hv
    by_cases h2 : sb < sb'
    all_goals
      go_enter Try.func29, Try.ntmps29
      go_wp2_with fail
      go_ret
      exact ⟨ret_bool (by simp [h2] <;> omega), alloc_two _ _ _⟩
  · have hv : Ent.befB ⟨ix, sb, nm, ty, ac, mp, st, mx, lo, hi, df⟩ ⟨ix', sb', nm', ty', ac', mp', st', mx', lo', hi', df'⟩ = decide (ix < ix') := if_neg h1
    rw [hv]
    have e1 : (ix != ix') = true := by simpa using h1
    have e2 : (ix == ix') = false := beq_false_of_ne h1
    clear hv
    by_cases h2 : ix < ix'
    · have e3 : decide (ix < ix') = true := decide_eq_true h2
      clear h1
      go_enter Try.func29, Try.ntmps29
      go_wp2_with fail
      go_ret
      exact ⟨ret_bool (by simp [h2]), alloc_two _ _ _⟩
    · have e3 : decide (ix < ix') = false := decide_eq_false h2
      clear h1
      go_enter Try.func29, Try.ntmps29
      go_wp2_with fail
      go_ret
      exact ⟨ret_bool (by simp [h2]), alloc_two _ _ _⟩
end Go.Proofs.Ytmolmpgampmolaa
