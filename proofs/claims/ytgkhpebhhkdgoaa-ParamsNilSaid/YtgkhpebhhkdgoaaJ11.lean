/-
  Texts joined: PrmNum, Cob, PdoPlace, MapMem, MapOne, MapObj.
  Conditions: none.
-/
import Derived.Test.YtgkhpebhhkdgoaaJ03
import Derived.Test.YtgkhpebhhkdgoaaJ04
import Derived.Test.YtgkhpebhhkdgoaaJ06
import Derived.Test.YtgkhpebhhkdgoaaJ10
/-
  Walks: Number, number, Words of layer 33.
  Conditions: none.
-/
namespace Go.Proofs.Ytgkhpebhhkdgoaa
set_option linter.unusedVariables false
set_option linter.unusedSimpArgs false
open Go.RowKit
theorem Peek_found {D : Dc.Dic} {x y : Int} {k : Nat} (h : Dc.findS D.l x y = some k) : Dc.peekS D x y = some (D.v.getD k []) := by
  unfold Dc.peekS
  rw [h]
  rfl
theorem Num_none {D : Dc.Dic} {x y : Int} (h : Dc.findS D.l x y = none) : Pm.numS D x y = (0, false) := by unfold Pm.numS; rw [h]
theorem Num_some {D : Dc.Dic} {x y : Int} {k : Nat} (h : Dc.findS D.l x y = some k) : Pm.numS D x y = if Pm.isNum (D.l.getD k Dc.en0).type = true then ((Ty.decS (D.l.getD k Dc.en0).type (D.v.getD k [])).1, decide ((Ty.decS (D.l.getD k Dc.en0).type (D.v.getD k [])).2 = 0)) else (0, false) := by unfold Pm.numS; rw [h]
theorem num_decide (z : Int) : (z == 0) = decide (z = 0) := by
  by_cases h : z = 0
  · rw [decide_eq_true h]; simpa using h
  · rw [decide_eq_false h]; simpa using h
/-- The cells of an entry, in a box. -/
theorem Blk.elv {w : World} {g : Nat} {t : TypeId} {c0 c1 c2 c3 c4 c5 c6 c7 c8 c9 c10 : Value} (h : Blk w g t #[c0, c1, c2, c3, c4, c5, c6, c7, c8, c9, c10]) : w.cell? ⟨g, 3, none⟩ = some c3 := h.cell 3
set_option maxRecDepth 100000 in
set_option maxHeartbeats 4000000 in
theorem Number_any {F : Nat → Prop} {w : World} {g gv lc vc : Nat} {la : Addr} {vA : Option Addr} {xs vs : List Value} {D : Dc.Dic} (x y : Int) (h : DRt 73 w F g gv (some la) lc vA vc xs vs D) (hd : ∀ e ∈ D.l, e.dflt.length ≤ 1000000) (hv : ∀ v ∈ D.v, v.length ≤ 1000000) :
    Calls Try.prog 5 #[.pointer (some ⟨g, 0, none⟩), .int .i64 x, .int .i64 y] w fun e w' => e = .returned (.tuple #[.int .i64 (Pm.numS D x y).1, .bool (Pm.numS D x y).2]) ∧ Below w.heap.size w w' := by
  have FI := dFind_any x y h
  cases hf : Dc.findS D.l x y with
  | none =>
    rw [findP_none hf] at FI
    have HN := Lib.hid (Num_none hf)
    clear h hf
    replace FI := Lib.hid FI
    go_enter Try.func5, Try.ntmps5
    go_wp2_with fail
    refine (FI.out).mono ?_
    rintro e w1 ⟨rfl, b1⟩
    go_wp2_with fail
    go_ret2
    rw [HN.out]
    exact ⟨rfl, b1⟩
  | some k =>
    have hk := (Dc.find_some hf).2.1
    rw [findP_some hf] at FI
    have HN := Lib.hid (Num_some hf)
    have EN := fun (w1 : World) (hb : Below w.heap.size w w1) => dEntry_any k (h.below hb) hk hd
    have PK := fun (w1 : World) (hb : Below w.heap.size w w1) => dPeek_any x y (h.below hb) hv
    rw [Peek_found hf] at PK
    unfold PeekP at PK
    dsimp only at PK FI
    generalize D.v.getD k [] = dat at *
    generalize D.l.getD k Dc.en0 = en at *
    obtain ⟨ix, sb, nm, ty, ac, mp, st, mx, lo, hi, df⟩ := en
    unfold enV at EN
    dsimp only at EN HN
    replace FI := Lib.hid FI; replace EN := Lib.hid EN; replace PK := Lib.hid PK
    clear h hf hk
    by_cases hty : ty = 5 ∨ ty = 6 ∨ ty = 7
    · have HN2 : Hid (Pm.numS D x y = ((Ty.decS ty dat).1, decide ((Ty.decS ty dat).2 = 0))) := Lib.hid (by rw [HN.out, if_pos (by unfold Pm.isNum; exact decide_eq_true hty)])
      have H3 : (ty == 5) = true ∨ ((ty == 5) = false ∧ (ty == 6) = true) ∨ ((ty == 5) = false ∧ (ty == 6) = false ∧ (ty == 7) = true) := by
        rcases hty with rfl | rfl | rfl
        · exact .inl rfl
        · exact .inr (.inl ⟨rfl, rfl⟩)
        · exact .inr (.inr ⟨rfl, rfl, rfl⟩)
      clear HN hty
      rcases H3 with e5 | ⟨e5, e6⟩ | ⟨e5, e6, e7⟩
      all_goals
        go_enter Try.func5, Try.ntmps5
        go_wp2_with fail
        refine (FI.out).mono ?_
        rintro e w1 ⟨rfl, b1⟩
        go_wp2_with fail
        refine (EN.out _ b1).mono ?_
        rintro e w2 ⟨A1, n1, c1, rfl, _, b2⟩
        have d2 := below_step b1 b2 (Nat.le_refl _)
        have b3 := alloc_one w2 (.cells #[.int .i64 ix, .int .i64 sb, .string (T nm), .int .i64 ty, .int .i64 ac, .bool mp, .bool st, .int .i64 mx, .int .i64 lo, .int .i64 hi, .slice A1 n1 c1] 46)
        have K3 := (Blk.new w2 46 #[.int .i64 ix, .int .i64 sb, .string (T nm), .int .i64 ty, .int .i64 ac, .bool mp, .bool st, .int .i64 mx, .int .i64 lo, .int .i64 hi, .slice A1 n1 c1])
        have F3 := K3.elv
        have d3 := below_step d2 b3 (Nat.le_refl _)
        go_wp2_with fail
        refine (PK.out _ d3).mono ?_
        rintro e w4 ⟨A4, c4, rfl, o4, b4⟩
        have d4 := below_step d3 b4 (Nat.le_refl _)
        have F4 := (K3.later b4).elv
        have DE := Lib.hid (Decode_any ty w4 o4.rb (Nat.le_refl _))
        clear F3
        go_wp2_with fail
        refine (DE.out).mono ?_
        rintro e w5 ⟨rfl, b5⟩
        go_wp2_with fail
        go_ret2
        rw [HN2.out]
        exact ⟨rfl, below_step d4 b5 (Nat.le_refl _)⟩
    · have HN2 : Hid (Pm.numS D x y = (0, false)) := Lib.hid (by rw [HN.out, if_neg (by unfold Pm.isNum; rw [decide_eq_false hty]; simp)])
      have e5 : (ty == 5) = false := by simp only [beq_eq_false_iff_ne]; omega
      have e6 : (ty == 6) = false := by simp only [beq_eq_false_iff_ne]; omega
      have e7 : (ty == 7) = false := by simp only [beq_eq_false_iff_ne]; omega
      clear HN hty PK
      go_enter Try.func5, Try.ntmps5
      go_wp2_with fail
      refine (FI.out).mono ?_
      rintro e w1 ⟨rfl, b1⟩
      go_wp2_with fail
      refine (EN.out _ b1).mono ?_
      rintro e w2 ⟨A1, n1, c1, rfl, _, b2⟩
      have d2 := below_step b1 b2 (Nat.le_refl _)
      have b3 := alloc_one w2 (.cells #[.int .i64 ix, .int .i64 sb, .string (T nm), .int .i64 ty, .int .i64 ac, .bool mp, .bool st, .int .i64 mx, .int .i64 lo, .int .i64 hi, .slice A1 n1 c1] 46)
      have K3 := (Blk.new w2 46 #[.int .i64 ix, .int .i64 sb, .string (T nm), .int .i64 ty, .int .i64 ac, .bool mp, .bool st, .int .i64 mx, .int .i64 lo, .int .i64 hi, .slice A1 n1 c1])
      have F3 := K3.elv
      have d3 := below_step d2 b3 (Nat.le_refl _)
      go_wp2_with fail
      go_ret2
      rw [HN2.out]
      exact ⟨rfl, d3⟩
set_option maxHeartbeats 1000000 in
theorem number_any {F : Nat → Prop} {w : World} {g gv lc vc : Nat} {la : Addr} {vA : Option Addr} {xs vs : List Value} {D : Dc.Dic} (x y o : Int) (h : DRt 73 w F g gv (some la) lc vA vc xs vs D) (hd : ∀ e ∈ D.l, e.dflt.length ≤ 1000000) (hv : ∀ v ∈ D.v, v.length ≤ 1000000) :
    Calls Try.prog 19 #[.pointer (some ⟨g, 0, none⟩), .int .i64 x, .int .i64 y, .int .i64 o] w fun e w' => e = .returned (.int .i64 (Pm.numD D x y o)) ∧ Below w.heap.size w w' := by
  have NU := Number_any x y h hd hv
  have hn : Pm.numD D x y o = if (Pm.numS D x y).2 = true then (Pm.numS D x y).1 else o := rfl
  rw [hn]
  clear hn h
  generalize Pm.numS D x y = q at *
  obtain ⟨z, b⟩ := q
  dsimp only at NU ⊢
  replace NU := Lib.hid NU
  cases b
  · simp only [Bool.false_eq_true, if_false]
    go_enter Try.func19, Try.ntmps19
    go_wp2_with fail
    refine (NU.out).mono ?_
    rintro e w1 ⟨rfl, b1⟩
    go_wp2_with fail
    go_ret
    exact ⟨rfl, b1⟩
  · simp only [if_true]
    go_enter Try.func19, Try.ntmps19
    go_wp2_with fail
    refine (NU.out).mono ?_
    rintro e w1 ⟨rfl, b1⟩
    go_wp2_with fail
    go_ret
    exact ⟨rfl, b1⟩
end Go.Proofs.Ytgkhpebhhkdgoaa
/-
  Walks: Split and Restricted of layer 11, and why a word can not be a PDO's.
  Conditions: none.
-/
namespace Go.Proofs.Ytgkhpebhhkdgoaa
set_option linter.unusedVariables false
set_option linter.unusedSimpArgs false
open Go.RowKit
set_option maxRecDepth 100000 in
set_option maxHeartbeats 1000000 in
theorem CSplit_bad (v : Nat) (hv : v < 4294967296) (h : Cob.bad v = true) (w : World) : Calls Try.prog 70 #[.int .u32 (v : Int)] w fun e w' => e = .returned (.tuple #[.agg #[.bool false, .bool false, .int .i64 0], .int .i64 4]) ∧ Below w.heap.size w w' := by
  have e1 := Cob.andNot_top v hv
  have h2 : 2048 ≤ v % 1073741824 := by unfold Cob.bad at h; exact of_decide_eq_true h
  generalize v % 1073741824 = r at *
  have b0 := alloc_one w (.cells #[.bool false, .bool false, .int .i64 0] 118)
  have K := Blk.new w 118 #[.bool false, .bool false, .int .i64 0]
  have F := K.three
  clear h
  go_enter Try.func70, Try.ntmps70
  go_wp2_with fail
  have R := K.three
  exact bodyPost_ret (v := .tuple #[.agg #[.bool false, .bool false, .int .i64 0], .int .i64 4]) (by simp [results, Try.results70, go_sem, R]) rfl ⟨rfl, b0⟩
set_option maxRecDepth 100000 in
set_option maxHeartbeats 1000000 in
theorem CSplit_ok (v : Nat) (hv : v < 4294967296) (h : Cob.bad v = false) (w : World) : Calls Try.prog 70 #[.int .u32 (v : Int)] w fun e w' => e = .returned (.tuple #[.agg #[.bool (Cob.off v), .bool (Cob.noR v), .int .i64 (Cob.id v : Int)], .int .i64 0]) ∧ Below w.heap.size w w' := by
  have e1 := Cob.andNot_top v hv
  have e2 := Cob.and_off v hv
  have e3 := Cob.and_noR v hv
  have h2 : v % 1073741824 < 2048 := by unfold Cob.bad at h; have := of_decide_eq_false h; omega
  have hid : v % 1073741824 = Cob.id v := by unfold Cob.id; omega
  rw [hid] at e1 h2
  have e4 : wrap64 (Cob.id v : Int) = (Cob.id v : Int) := by unfold wrap64; omega
  generalize Cob.off v = o at *
  generalize Cob.noR v = nr at *
  generalize Cob.id v = i at *
  have b0 := alloc_one w (.cells #[.bool false, .bool false, .int .i64 0] 118)
  have K := Blk.new w 118 #[.bool false, .bool false, .int .i64 0]
  have F := K.three
  clear h hid
  go_enter Try.func70, Try.ntmps70
  go_wp2_with fail
  have R := (Blk.new w 118 #[.bool o, .bool nr, .int .i64 (i : Int)]).three
  exact bodyPost_ret (v := .tuple #[.agg #[.bool o, .bool nr, .int .i64 (i : Int)], .int .i64 0]) (by simp [results, Try.results70, go_sem, R]) rfl ⟨rfl, alloc_one _ _⟩
theorem cbetween_any (n a b : Int) (w : World) : Calls Try.prog 81 #[.int .i64 n, .int .i64 a, .int .i64 b] w fun e w' => e = .returned (.bool (decide (a ≤ n ∧ n ≤ b))) ∧ w = w' := by
  by_cases h1 : a ≤ n
  · by_cases h2 : n ≤ b
    · rw [decide_eq_true (And.intro h1 h2)]
      go_enter Try.func81, Try.ntmps81
      go_wp2_with fail
      go_ret
      exact ⟨rfl, rfl⟩
    · rw [decide_eq_false (fun h : a ≤ n ∧ n ≤ b => h2 h.2)]
      go_enter Try.func81, Try.ntmps81
      go_wp2_with fail
      go_ret
      exact ⟨rfl, rfl⟩
  · rw [decide_eq_false (fun h : a ≤ n ∧ n ≤ b => h1 h.1)]
    go_enter Try.func81, Try.ntmps81
    go_wp2_with fail
    go_ret
    exact ⟨rfl, rfl⟩
set_option maxHeartbeats 2000000 in
theorem Restricted_any (n : Int) (w : World) : Calls Try.prog 71 #[.int .i64 n] w fun e w' => e = .returned (.bool (Cob.restr n)) ∧ w = w' := by
  have B := fun a b => Lib.hid (fun w => cbetween_any n a b w)
  have B1 := B 257 384
  have B2 := B 1409 1535
  have B3 := B 1537 1663
  have B4 := B 1760 1791
  clear B
  have hr : Cob.restr n = (decide (n < 128) || decide (2047 < n) || decide (257 ≤ n ∧ n ≤ 384) || decide (1409 ≤ n ∧ n ≤ 1535) || decide (1537 ≤ n ∧ n ≤ 1663) || decide (1760 ≤ n ∧ n ≤ 1791) || decide (1792 < n)) := by
    unfold Cob.restr
    rw [Bool.eq_iff_iff]
    simp only [Bool.or_eq_true, decide_eq_true_eq, or_assoc]
  rw [hr]
  clear hr
  generalize hb1 : decide (257 ≤ n ∧ n ≤ 384) = b1 at *
  generalize hb2 : decide (1409 ≤ n ∧ n ≤ 1535) = b2 at *
  generalize hb3 : decide (1537 ≤ n ∧ n ≤ 1663) = b3 at *
  generalize hb4 : decide (1760 ≤ n ∧ n ≤ 1791) = b4 at *
  clear hb1 hb2 hb3 hb4
  by_cases h1 : n < 128
  · simp only [h1, decide_true, Bool.true_or]
    go_enter Try.func71, Try.ntmps71
    go_wp2_with fail
    go_ret
    exact ⟨rfl, rfl⟩
  · by_cases h2 : 2047 < n
    · simp only [h1, h2, decide_true, Bool.true_or, Bool.or_true]
      go_enter Try.func71, Try.ntmps71
      go_wp2_with fail
      go_ret
      exact ⟨rfl, rfl⟩
    · simp only [h1, h2, decide_false, Bool.false_or]
      go_enter Try.func71, Try.ntmps71
      go_wp2_with fail
      refine (B1.out _).mono ?_
      rintro e _ ⟨rfl, rfl⟩
      cases b1
      · go_wp2_with fail
        refine (B2.out _).mono ?_
        rintro e _ ⟨rfl, rfl⟩
        cases b2
        · go_wp2_with fail
          refine (B3.out _).mono ?_
          rintro e _ ⟨rfl, rfl⟩
          cases b3
          · go_wp2_with fail
            refine (B4.out _).mono ?_
            rintro e _ ⟨rfl, rfl⟩
            cases b4
            · by_cases h3 : 1792 < n
              · go_wp2_with fail
                go_ret
                exact ⟨by simp [h3], rfl⟩
              · go_wp2_with fail
                go_ret
                exact ⟨by simp [h3], rfl⟩
            · go_wp2_with fail
              go_ret
              exact ⟨rfl, rfl⟩
          · go_wp2_with fail
            go_ret
            exact ⟨rfl, rfl⟩
        · go_wp2_with fail
          go_ret
          exact ⟨rfl, rfl⟩
      · go_wp2_with fail
        go_ret
        exact ⟨rfl, rfl⟩
end Go.Proofs.Ytgkhpebhhkdgoaa
/-
  Walks: why a word can not be a PDO's, of layers 31 and 32.
  Conditions: none.
-/
namespace Go.Proofs.Ytgkhpebhhkdgoaa
set_option linter.unusedVariables false
set_option linter.unusedSimpArgs false
open Go.RowKit
set_option maxRecDepth 100000 in
set_option maxHeartbeats 1000000 in
theorem rplace_any (v : Nat) (hv : v < 4294967296) (w : World) : Calls Try.prog 75 #[.int .u32 (v : Int)] w fun e w' => e = .returned (.int .u32 (Cob.place v)) ∧ Below w.heap.size w w' := by
  unfold Cob.place
  cases hb : Cob.bad v
  · have SP := Lib.hid (fun w => CSplit_ok v hv hb w)
    have RE := Lib.hid (fun w => Restricted_any (Cob.id v : Int) w)
    clear hb
    simp only [Bool.false_eq_true, if_false]
    generalize Cob.restr (Cob.id v : Int) = rs at *
    generalize (Cob.id v : Int) = i at *
    generalize Cob.noR v = nr at *
    cases ho : Cob.off v
    · rw [ho] at SP
      clear ho
      cases rs
      all_goals
        simp only [Bool.false_eq_true, and_false, if_false, and_self, if_true, true_and]
        go_enter Try.func75, Try.ntmps75
        go_wp2_with fail
        refine (SP.out _).mono ?_
        rintro e w1 ⟨rfl, b1⟩
        have b2 := alloc_one w1 (.cells #[.bool false, .bool nr, .int .i64 i] 118)
        have K := (Blk.new w1 118 #[.bool false, .bool nr, .int .i64 i]).three
        go_wp2_with fail
        refine (RE.out _).mono ?_
        rintro e _ ⟨rfl, rfl⟩
        go_wp2_with fail
        go_ret
        exact ⟨rfl, below_step b1 b2 (Nat.le_refl _)⟩
    · rw [ho] at SP
      clear ho
      simp only [Bool.true_eq_false, false_and, if_false]
      go_enter Try.func75, Try.ntmps75
      go_wp2_with fail
      refine (SP.out _).mono ?_
      rintro e w1 ⟨rfl, b1⟩
      have b2 := alloc_one w1 (.cells #[.bool true, .bool nr, .int .i64 i] 118)
      have K := (Blk.new w1 118 #[.bool true, .bool nr, .int .i64 i]).three
      go_wp2_with fail
      go_ret
      exact ⟨rfl, below_step b1 b2 (Nat.le_refl _)⟩
  · have SP := Lib.hid (fun w => CSplit_bad v hv hb w)
    clear hb
    simp only [if_true]
    go_enter Try.func75, Try.ntmps75
    go_wp2_with fail
    refine (SP.out _).mono ?_
    rintro e w1 ⟨rfl, b1⟩
    have b2 := alloc_one w1 (.cells #[.bool false, .bool false, .int .i64 0] 118)
    have K := (Blk.new w1 118 #[.bool false, .bool false, .int .i64 0]).three
    go_wp2_with fail
    go_ret
    exact ⟨rfl, below_step b1 b2 (Nat.le_refl _)⟩
set_option maxRecDepth 100000 in
set_option maxHeartbeats 1000000 in
theorem tplace_any (v : Nat) (hv : v < 4294967296) (w : World) : Calls Try.prog 78 #[.int .u32 (v : Int)] w fun e w' => e = .returned (.int .u32 (Cob.place v)) ∧ Below w.heap.size w w' := by
  unfold Cob.place
  cases hb : Cob.bad v
  · have SP := Lib.hid (fun w => CSplit_ok v hv hb w)
    have RE := Lib.hid (fun w => Restricted_any (Cob.id v : Int) w)
    clear hb
    simp only [Bool.false_eq_true, if_false]
    generalize Cob.restr (Cob.id v : Int) = rs at *
    generalize (Cob.id v : Int) = i at *
    generalize Cob.noR v = nr at *
    cases ho : Cob.off v
    · rw [ho] at SP
      clear ho
      cases rs
      all_goals
        simp only [Bool.false_eq_true, and_false, if_false, and_self, if_true, true_and]
        go_enter Try.func78, Try.ntmps78
        go_wp2_with fail
        refine (SP.out _).mono ?_
        rintro e w1 ⟨rfl, b1⟩
        have b2 := alloc_one w1 (.cells #[.bool false, .bool nr, .int .i64 i] 118)
        have K := (Blk.new w1 118 #[.bool false, .bool nr, .int .i64 i]).three
        go_wp2_with fail
        refine (RE.out _).mono ?_
        rintro e _ ⟨rfl, rfl⟩
        go_wp2_with fail
        go_ret
        exact ⟨rfl, below_step b1 b2 (Nat.le_refl _)⟩
    · rw [ho] at SP
      clear ho
      simp only [Bool.true_eq_false, false_and, if_false]
      go_enter Try.func78, Try.ntmps78
      go_wp2_with fail
      refine (SP.out _).mono ?_
      rintro e w1 ⟨rfl, b1⟩
      have b2 := alloc_one w1 (.cells #[.bool true, .bool nr, .int .i64 i] 118)
      have K := (Blk.new w1 118 #[.bool true, .bool nr, .int .i64 i]).three
      go_wp2_with fail
      go_ret
      exact ⟨rfl, below_step b1 b2 (Nat.le_refl _)⟩
  · have SP := Lib.hid (fun w => CSplit_bad v hv hb w)
    clear hb
    simp only [if_true]
    go_enter Try.func78, Try.ntmps78
    go_wp2_with fail
    refine (SP.out _).mono ?_
    rintro e w1 ⟨rfl, b1⟩
    have b2 := alloc_one w1 (.cells #[.bool false, .bool false, .int .i64 0] 118)
    have K := (Blk.new w1 118 #[.bool false, .bool false, .int .i64 0]).three
    go_wp2_with fail
    go_ret
    exact ⟨rfl, below_step b1 b2 (Nat.le_refl _)⟩
end Go.Proofs.Ytgkhpebhhkdgoaa
/-
  A block of twelve cells that is known whole: an object of a mapping.
  Conditions: none.
-/
namespace Go.Proofs.Ytgkhpebhhkdgoaa
set_option linter.unusedVariables false
set_option linter.unusedSimpArgs false
open Go.RowKit
theorem Blk.twelve {w : World} {g : Nat} {t : TypeId} {x0 x1 x2 x3 x4 x5 x6 x7 x8 x9 x10 x11 : Value} (h : Blk w g t #[x0, x1, x2, x3, x4, x5, x6, x7, x8, x9, x10, x11]) : (w.cell? ⟨g, 0, none⟩ = some x0 ∧ w.cell? ⟨g, 1, none⟩ = some x1 ∧ w.cell? ⟨g, 2, none⟩ = some x2 ∧ w.cell? ⟨g, 3, none⟩ = some x3 ∧ w.cell? ⟨g, 4, none⟩ = some x4 ∧ w.cell? ⟨g, 5, none⟩ = some x5 ∧ w.cell? ⟨g, 6, none⟩ = some x6 ∧ w.cell? ⟨g, 7, none⟩ = some x7 ∧ w.cell? ⟨g, 8, none⟩ = some x8 ∧ w.cell? ⟨g, 9, none⟩ = some x9 ∧ w.cell? ⟨g, 10, none⟩ = some x10 ∧ w.cell? ⟨g, 11, none⟩ = some x11) ∧ (w.frozen? ⟨g, 0, none⟩ = false ∧ w.frozen? ⟨g, 1, none⟩ = false ∧ w.frozen? ⟨g, 2, none⟩ = false ∧ w.frozen? ⟨g, 3, none⟩ = false ∧ w.frozen? ⟨g, 4, none⟩ = false ∧ w.frozen? ⟨g, 5, none⟩ = false ∧ w.frozen? ⟨g, 6, none⟩ = false ∧ w.frozen? ⟨g, 7, none⟩ = false ∧ w.frozen? ⟨g, 8, none⟩ = false ∧ w.frozen? ⟨g, 9, none⟩ = false ∧ w.frozen? ⟨g, 10, none⟩ = false ∧ w.frozen? ⟨g, 11, none⟩ = false) := ⟨⟨h.cell 0, h.cell 1, h.cell 2, h.cell 3, h.cell 4, h.cell 5, h.cell 6, h.cell 7, h.cell 8, h.cell 9, h.cell 10, h.cell 11⟩, h.frozen 0, h.frozen 1, h.frozen 2, h.frozen 3, h.frozen 4, h.frozen 5, h.frozen 6, h.frozen 7, h.frozen 8, h.frozen 9, h.frozen 10, h.frozen 11⟩
theorem Blk.store12 {w : World} {g : Nat} {t : TypeId} {x0 x1 x2 x3 x4 x5 x6 x7 x8 x9 x10 x11 : Value} (h : Blk w g t #[x0, x1, x2, x3, x4, x5, x6, x7, x8, x9, x10, x11]) (y0 y1 y2 y3 y4 y5 y6 y7 y8 y9 y10 y11 : Value) : Blk (World.setCell (World.setCell (World.setCell (World.setCell (World.setCell (World.setCell (World.setCell (World.setCell (World.setCell (World.setCell (World.setCell (World.setCell w ⟨g, 0, none⟩ y0) ⟨g, 1, none⟩ y1) ⟨g, 2, none⟩ y2) ⟨g, 3, none⟩ y3) ⟨g, 4, none⟩ y4) ⟨g, 5, none⟩ y5) ⟨g, 6, none⟩ y6) ⟨g, 7, none⟩ y7) ⟨g, 8, none⟩ y8) ⟨g, 9, none⟩ y9) ⟨g, 10, none⟩ y10) ⟨g, 11, none⟩ y11) g t #[y0, y1, y2, y3, y4, y5, y6, y7, y8, y9, y10, y11] := by
  have h0 : Blk _ g t #[y0, x1, x2, x3, x4, x5, x6, x7, x8, x9, x10, x11] := h.set_ 0 y0
  have h1 : Blk _ g t #[y0, y1, x2, x3, x4, x5, x6, x7, x8, x9, x10, x11] := h0.set_ 1 y1
  have h2 : Blk _ g t #[y0, y1, y2, x3, x4, x5, x6, x7, x8, x9, x10, x11] := h1.set_ 2 y2
  have h3 : Blk _ g t #[y0, y1, y2, y3, x4, x5, x6, x7, x8, x9, x10, x11] := h2.set_ 3 y3
  have h4 : Blk _ g t #[y0, y1, y2, y3, y4, x5, x6, x7, x8, x9, x10, x11] := h3.set_ 4 y4
  have h5 : Blk _ g t #[y0, y1, y2, y3, y4, y5, x6, x7, x8, x9, x10, x11] := h4.set_ 5 y5
  have h6 : Blk _ g t #[y0, y1, y2, y3, y4, y5, y6, x7, x8, x9, x10, x11] := h5.set_ 6 y6
  have h7 : Blk _ g t #[y0, y1, y2, y3, y4, y5, y6, y7, x8, x9, x10, x11] := h6.set_ 7 y7
  have h8 : Blk _ g t #[y0, y1, y2, y3, y4, y5, y6, y7, y8, x9, x10, x11] := h7.set_ 8 y8
  have h9 : Blk _ g t #[y0, y1, y2, y3, y4, y5, y6, y7, y8, y9, x10, x11] := h8.set_ 9 y9
  have h10 : Blk _ g t #[y0, y1, y2, y3, y4, y5, y6, y7, y8, y9, y10, x11] := h9.set_ 10 y10
  have h11 : Blk _ g t #[y0, y1, y2, y3, y4, y5, y6, y7, y8, y9, y10, y11] := h10.set_ 11 y11
  exact h11
theorem below_set12 {B : Nat} {a w : World} {g : Nat} (h : Below B a w) (hg : B ≤ g) (y0 y1 y2 y3 y4 y5 y6 y7 y8 y9 y10 y11 : Value) : Below B a (World.setCell (World.setCell (World.setCell (World.setCell (World.setCell (World.setCell (World.setCell (World.setCell (World.setCell (World.setCell (World.setCell (World.setCell w ⟨g, 0, none⟩ y0) ⟨g, 1, none⟩ y1) ⟨g, 2, none⟩ y2) ⟨g, 3, none⟩ y3) ⟨g, 4, none⟩ y4) ⟨g, 5, none⟩ y5) ⟨g, 6, none⟩ y6) ⟨g, 7, none⟩ y7) ⟨g, 8, none⟩ y8) ⟨g, 9, none⟩ y9) ⟨g, 10, none⟩ y10) ⟨g, 11, none⟩ y11) := ((((((((((((h.setCell (p := ⟨g, 0, none⟩) hg y0).setCell (p := ⟨g, 1, none⟩) hg y1).setCell (p := ⟨g, 2, none⟩) hg y2).setCell (p := ⟨g, 3, none⟩) hg y3).setCell (p := ⟨g, 4, none⟩) hg y4).setCell (p := ⟨g, 5, none⟩) hg y5).setCell (p := ⟨g, 6, none⟩) hg y6).setCell (p := ⟨g, 7, none⟩) hg y7).setCell (p := ⟨g, 8, none⟩) hg y8).setCell (p := ⟨g, 9, none⟩) hg y9).setCell (p := ⟨g, 10, none⟩) hg y10).setCell (p := ⟨g, 11, none⟩) hg y11)
theorem OB.far12 {w : World} {base g n c : Nat} {A : Option Addr} {l : List UInt8} (h : OB w base A n c l) (hg : g < base) (y0 y1 y2 y3 y4 y5 y6 y7 y8 y9 y10 y11 : Value) : OB (World.setCell (World.setCell (World.setCell (World.setCell (World.setCell (World.setCell (World.setCell (World.setCell (World.setCell (World.setCell (World.setCell (World.setCell w ⟨g, 0, none⟩ y0) ⟨g, 1, none⟩ y1) ⟨g, 2, none⟩ y2) ⟨g, 3, none⟩ y3) ⟨g, 4, none⟩ y4) ⟨g, 5, none⟩ y5) ⟨g, 6, none⟩ y6) ⟨g, 7, none⟩ y7) ⟨g, 8, none⟩ y8) ⟨g, 9, none⟩ y9) ⟨g, 10, none⟩ y10) ⟨g, 11, none⟩ y11) base A n c l := ((((((((((((h.far hg 0 y0).far hg 1 y1).far hg 2 y2).far hg 3 y3).far hg 4 y4).far hg 5 y5).far hg 6 y6).far hg 7 y7).far hg 8 y8).far hg 9 y9).far hg 10 y10).far hg 11 y11)
end Go.Proofs.Ytgkhpebhhkdgoaa
/-
  Walks: find of layer 30.
  Conditions: none.
-/
namespace Go.Proofs.Ytgkhpebhhkdgoaa
set_option linter.unusedVariables false
set_option linter.unusedSimpArgs false
open Go.RowKit
/-- What a word names, or why there is none. -/
def FindP (D : Dc.Dic) (v : Nat) (w : World) (e : Ending) (w' : World) : Prop := match Dc.findS D.l (Mp.ix v) (Mp.sb v) with
  | none => e = .returned (.tuple #[.agg #[.int .i64 0, .int .i64 0, .string ⟨#[]⟩, .int .i64 0, .int .i64 0, .bool false, .bool false, .int .i64 0, .int .i64 0, .int .i64 0, .slice none 0 0, .int .i64 0], .int .u32 (if Dc.inB D.l (Mp.ix v) = true then 101253137 else 100794368)]) ∧ Below w.heap.size w w'
  | some k => ∃ A n c, e = .returned (.tuple #[.agg #[.int .i64 (D.l.getD k Dc.en0).index, .int .i64 (D.l.getD k Dc.en0).sub, .string (T (D.l.getD k Dc.en0).name), .int .i64 (D.l.getD k Dc.en0).type, .int .i64 (D.l.getD k Dc.en0).access, .bool (D.l.getD k Dc.en0).map, .bool (D.l.getD k Dc.en0).store, .int .i64 (D.l.getD k Dc.en0).max, .int .i64 (D.l.getD k Dc.en0).low, .int .i64 (D.l.getD k Dc.en0).high, .slice A n c, .int .i64 (Mp.bt v : Int)], .int .u32 0]) ∧ OB w' w.heap.size A n c (D.l.getD k Dc.en0).dflt ∧ Below w.heap.size w w'
theorem find_no {D : Dc.Dic} {v : Nat} {w w' : World} {code : Int} (hf : Dc.findS D.l (Mp.ix v) (Mp.sb v) = none) (hc : (if Dc.inB D.l (Mp.ix v) = true then (101253137 : Int) else 100794368) = code) (hb : Below w.heap.size w w') :
    FindP D v w (.returned (.tuple #[.agg #[.int .i64 0, .int .i64 0, .string ⟨#[]⟩, .int .i64 0, .int .i64 0, .bool false, .bool false, .int .i64 0, .int .i64 0, .int .i64 0, .slice none 0 0, .int .i64 0], .int .u32 code])) w' := by
  subst hc
  unfold FindP
  rw [hf]
  exact ⟨rfl, hb⟩
theorem find_yes {D : Dc.Dic} {v k : Nat} {w w' : World} {ix sb ty ac mx lo hi : Int} {nm df : List UInt8} {mp st : Bool} {A : Option Addr} {n c : Nat} (hf : Dc.findS D.l (Mp.ix v) (Mp.sb v) = some k) (he : D.l.getD k Dc.en0 = ⟨ix, sb, nm, ty, ac, mp, st, mx, lo, hi, df⟩) (ho : OB w' w.heap.size A n c df) (hb : Below w.heap.size w w') :
    FindP D v w (.returned (.tuple #[.agg #[.int .i64 ix, .int .i64 sb, .string (T nm), .int .i64 ty, .int .i64 ac, .bool mp, .bool st, .int .i64 mx, .int .i64 lo, .int .i64 hi, .slice A n c, .int .i64 (Mp.bt v : Int)], .int .u32 0])) w' := by
  unfold FindP
  rw [hf]
  dsimp only
  rw [he]
  exact ⟨A, n, c, rfl, ho, hb⟩
set_option maxRecDepth 100000 in
set_option maxHeartbeats 4000000 in
theorem find_any {F : Nat → Prop} {w : World} {g gv lc vc : Nat} {la : Addr} {vA : Option Addr} {xs vs : List Value} {D : Dc.Dic} (v : Nat) (hv : v < 4294967296) (h : DRt 73 w F g gv (some la) lc vA vc xs vs D) (hd : ∀ e ∈ D.l, e.dflt.length ≤ 1000000) : Calls Try.prog 84 #[.pointer (some ⟨g, 0, none⟩), .int .u32 (v : Int)] w (FindP D v w) := by
  have SP := Lib.hid (fun w => MSplit_any v hv w)
  have b0 := alloc_one w (.cells #[.int .i64 0, .int .i64 0, .string ⟨#[]⟩, .int .i64 0, .int .i64 0, .bool false, .bool false, .int .i64 0, .int .i64 0, .int .i64 0, .slice none 0 0, .int .i64 0] 135)
  have K0 := Blk.new w 135 #[.int .i64 0, .int .i64 0, .string ⟨#[]⟩, .int .i64 0, .int .i64 0, .bool false, .bool false, .int .i64 0, .int .i64 0, .int .i64 0, .slice none 0 0, .int .i64 0]
  have FD := dFind_any (Mp.ix v : Int) (Mp.sb v : Int) (h.below b0)
  cases hf : Dc.findS D.l (Mp.ix v) (Mp.sb v) with
  | none =>
    rw [findP_none hf] at FD
    dsimp only at FD
    replace FD := Lib.hid FD
    have hm : Dc.mayS D.l false (Mp.ix v) (Mp.sb v) [] = if Dc.inB D.l (Mp.ix v) = true then 101253137 else 100794368 := by unfold Dc.mayS; rw [hf]
    have MY := fun (w1 : World) (hb : Below w.heap.size w w1) => dMay_any (Mp.ix v : Int) (Mp.sb v : Int) (h.below hb) (RB.none_ (w := w1) (B := 0)) (Nat.zero_le _)
    rw [hm] at MY
    generalize hcd : (if Dc.inB D.l (Mp.ix v) = true then (101253137 : Int) else 100794368) = code at *
    have HCD := Lib.hid hcd; have HF := Lib.hid hf
    replace MY := Lib.hid MY
    clear hm hcd hf
    go_enter Try.func84, Try.ntmps84
    go_wp2_with fail
    refine (SP.out _).mono ?_
    rintro e w1 ⟨rfl, rfl⟩
    go_wp2_with fail
    refine (FD.out).mono ?_
    rintro e w1 ⟨rfl, b1⟩
    have d1 := below_step b0 b1 (Nat.le_refl _)
    go_wp2_with fail
    refine (MY.out _ d1).mono ?_
    rintro e w2 ⟨rfl, b2⟩
    have K2 := (K0.later b1).later b2
    have d2 := below_step d1 b2 (Nat.le_refl _)
    have E2 := K2.twelve
    go_wp2_with fail
    have R := (K2.store12 (.int .i64 0) (.int .i64 0) (.string ⟨#[]⟩) (.int .i64 0) (.int .i64 0) (.bool false) (.bool false) (.int .i64 0) (.int .i64 0) (.int .i64 0) (.slice none 0 0) (.int .i64 0)).twelve.1
    have d3 := below_set12 (g := w.heap.size) d2 (Nat.le_refl _) (.int .i64 0) (.int .i64 0) (.string ⟨#[]⟩) (.int .i64 0) (.int .i64 0) (.bool false) (.bool false) (.int .i64 0) (.int .i64 0) (.int .i64 0) (.slice none 0 0) (.int .i64 0)
    exact bodyPost_ret (v := .tuple #[.agg #[.int .i64 0, .int .i64 0, .string ⟨#[]⟩, .int .i64 0, .int .i64 0, .bool false, .bool false, .int .i64 0, .int .i64 0, .int .i64 0, .slice none 0 0, .int .i64 0], .int .u32 code]) (by simp [results, Try.results84, go_sem, R]) rfl (find_no HF.out HCD.out d3)
  | some k =>
    rw [findP_some hf] at FD
    dsimp only at FD
    have hk := (Dc.find_some hf).2.1
    have HF := Lib.hid hf
    have EN := fun (w1 : World) (hb : Below w.heap.size w w1) => dEntry_any k (h.below hb) hk hd
    generalize he : D.l.getD k Dc.en0 = e0 at *
    have HE := Lib.hid he
    obtain ⟨ix, sb, nm, ty, ac, mp, st, mx, lo, hi, df⟩ := e0
    unfold enV at EN
    dsimp only at EN
    replace FD := Lib.hid FD; replace EN := Lib.hid EN
    clear he hf
    go_enter Try.func84, Try.ntmps84
    go_wp2_with fail
    refine (SP.out _).mono ?_
    rintro e w1 ⟨rfl, rfl⟩
    go_wp2_with fail
    refine (FD.out).mono ?_
    rintro e w1 ⟨rfl, b1⟩
    have d1 := below_step b0 b1 (Nat.le_refl _)
    go_wp2_with fail
    refine (EN.out _ d1).mono ?_
    rintro e w2 ⟨A1, n1, c1, rfl, o2, b2⟩
    have d2 := below_step d1 b2 (Nat.le_refl _)
    have b3 := alloc_one w2 (.cells #[.int .i64 ix, .int .i64 sb, .string (T nm), .int .i64 ty, .int .i64 ac, .bool mp, .bool st, .int .i64 mx, .int .i64 lo, .int .i64 hi, .slice A1 n1 c1] 46)
    have K3 := ((K0.later b1).later b2).later b3
    have d3 := below_step d2 b3 (Nat.le_refl _)
    have o3 := o2.below b3
    have E3 := K3.twelve
    have HS1 := Lib.hid (K0.later b1).lt
    clear b3 b2 b1 o2
    go_wp2_with fail
    have R := (K3.store12 (.int .i64 ix) (.int .i64 sb) (.string (T nm)) (.int .i64 ty) (.int .i64 ac) (.bool mp) (.bool st) (.int .i64 mx) (.int .i64 lo) (.int .i64 hi) (.slice A1 n1 c1) (.int .i64 (Mp.bt v : Int))).twelve.1
    have d4 := below_set12 (g := w.heap.size) d3 (Nat.le_refl _) (.int .i64 ix) (.int .i64 sb) (.string (T nm)) (.int .i64 ty) (.int .i64 ac) (.bool mp) (.bool st) (.int .i64 mx) (.int .i64 lo) (.int .i64 hi) (.slice A1 n1 c1) (.int .i64 (Mp.bt v : Int))
    have o4 := (o3.far12 (g := w.heap.size) HS1.out (.int .i64 ix) (.int .i64 sb) (.string (T nm)) (.int .i64 ty) (.int .i64 ac) (.bool mp) (.bool st) (.int .i64 mx) (.int .i64 lo) (.int .i64 hi) (.slice A1 n1 c1) (.int .i64 (Mp.bt v : Int))).more (base' := w.heap.size) (Nat.le_of_lt HS1.out)
    exact bodyPost_ret (v := .tuple #[.agg #[.int .i64 ix, .int .i64 sb, .string (T nm), .int .i64 ty, .int .i64 ac, .bool mp, .bool st, .int .i64 mx, .int .i64 lo, .int .i64 hi, .slice A1 n1 c1, .int .i64 (Mp.bt v : Int)], .int .u32 0]) (by simp [results, Try.results84, go_sem, R]) rfl (find_yes HF.out HE.out o4 d4)
end Go.Proofs.Ytgkhpebhhkdgoaa
/-
  Walks: an object of a mapping, whether it is readable and writable.
  Conditions: none.
-/
namespace Go.Proofs.Ytgkhpebhhkdgoaa
set_option linter.unusedVariables false
set_option linter.unusedSimpArgs false
open Go.RowKit
/-- An object of a mapping: an entry and a number of bits. -/
def objV (e : Ent.En) (A : Option Addr) (n c : Nat) (b : Int) : Value := .agg (#[.int .i64 e.index, .int .i64 e.sub, .string (T e.name), .int .i64 e.type, .int .i64 e.access, .bool e.map, .bool e.store, .int .i64 e.max, .int .i64 e.low, .int .i64 e.high, .slice A n c, .int .i64 b])
set_option maxRecDepth 100000 in
set_option maxHeartbeats 4000000 in
theorem objR_any (e : Ent.En) (A : Option Addr) (n c : Nat) (b : Int) (w : World) : Calls Try.prog 85 #[objV e A n c b] w fun x w' => x = .returned (.int .u32 (Ent.readS e)) ∧ Below w.heap.size w w' := by
  obtain ⟨ix, sb, nm, ty, ac, mp, st, mx, lo, hi, df⟩ := e
  unfold objV
  dsimp only
  have CL := fun w => Readable_any ⟨ix, sb, nm, ty, ac, mp, st, mx, lo, hi, df⟩ A n c w
  unfold enV at CL
  dsimp only at CL
  replace CL := Lib.hid CL
  have b0 := alloc_one w (.cells #[.int .i64 ix, .int .i64 sb, .string (T nm), .int .i64 ty, .int .i64 ac, .bool mp, .bool st, .int .i64 mx, .int .i64 lo, .int .i64 hi, .slice A n c, .int .i64 b] 135)
  generalize Ent.readS (⟨ix, sb, nm, ty, ac, mp, st, mx, lo, hi, df⟩ : Ent.En) = r at *
  go_enter Try.func85, Try.ntmps85
  go_wp2_with fail
  refine (CL.out _).mono ?_
  rintro e w1 ⟨rfl, b1⟩
  have d1 := below_step b0 b1 (Nat.le_refl _)
  go_wp2_with fail
  go_ret
  exact ⟨rfl, d1⟩
set_option maxRecDepth 100000 in
set_option maxHeartbeats 4000000 in
theorem objW_any (e : Ent.En) (A : Option Addr) (n c : Nat) (b : Int) (w : World) : Calls Try.prog 86 #[objV e A n c b] w fun x w' => x = .returned (.int .u32 (Ent.writS e)) ∧ Below w.heap.size w w' := by
  obtain ⟨ix, sb, nm, ty, ac, mp, st, mx, lo, hi, df⟩ := e
  unfold objV
  dsimp only
  have CL := fun w => Writable_any ⟨ix, sb, nm, ty, ac, mp, st, mx, lo, hi, df⟩ A n c w
  unfold enV at CL
  dsimp only at CL
  replace CL := Lib.hid CL
  have b0 := alloc_one w (.cells #[.int .i64 ix, .int .i64 sb, .string (T nm), .int .i64 ty, .int .i64 ac, .bool mp, .bool st, .int .i64 mx, .int .i64 lo, .int .i64 hi, .slice A n c, .int .i64 b] 135)
  generalize Ent.writS (⟨ix, sb, nm, ty, ac, mp, st, mx, lo, hi, df⟩ : Ent.En) = r at *
  go_enter Try.func86, Try.ntmps86
  go_wp2_with fail
  refine (CL.out _).mono ?_
  rintro e w1 ⟨rfl, b1⟩
  have d1 := below_step b0 b1 (Nat.le_refl _)
  go_wp2_with fail
  go_ret
  exact ⟨rfl, d1⟩
end Go.Proofs.Ytgkhpebhhkdgoaa
