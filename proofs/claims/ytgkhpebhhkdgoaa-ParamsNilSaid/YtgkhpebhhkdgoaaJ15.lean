/-
  Texts joined: PrmAsk, PrmAsk2.
  Conditions: none.
-/
import Derived.Test.YtgkhpebhhkdgoaaJ11
import Derived.Test.YtgkhpebhhkdgoaaJ12
import Derived.Test.YtgkhpebhhkdgoaaJ14
/-
  Walks: what is asked of places (layer 33).
  Conditions: none.
-/
namespace Go.Proofs.Ytgkhpebhhkdgoaa
set_option linter.unusedVariables false
set_option linter.unusedSimpArgs false
open Go.RowKit Go.Sort
theorem and_bit64 (y : Nat) (h : y < 4294967296) : bits .and .i64 (y : Int) 2147483648 = if y < 2147483648 then 0 else 2147483648 := by
  show IntKind.i64.wrap ((BitVec.ofInt 64 (y : Int) &&& BitVec.ofInt 64 2147483648).toNat : Int) = _
  have h1 : (BitVec.ofInt 64 (y : Int)).toNat = y := by simp [BitVec.toNat_ofInt]; omega
  have h2 : (BitVec.ofInt 64 2147483648).toNat = 2 ^ 31 := by decide
  rw [BitVec.toNat_and, h1, h2]
  have h3 : y &&& 2 ^ 31 = if y < 2147483648 then 0 else 2147483648 := by
    apply Nat.eq_of_testBit_eq
    intro k
    rw [Nat.testBit_and, Nat.testBit_two_pow]
    by_cases hk : 31 = k
    · subst hk
      rw [decide_eq_true rfl, Bool.and_true]
      split
      · rw [Nat.testBit_lt_two_pow (by omega)]; simp
      · rw [Nat.testBit_eq_decide_div_mod_eq]
        have : y / 2 ^ 31 = 1 := by omega
        rw [this]
        decide
    · rw [decide_eq_false hk, Bool.and_false]
      split
      · simp
      · rw [show (2147483648 : Nat) = 2 ^ 31 by decide, Nat.testBit_two_pow, decide_eq_false hk]
  rw [h3]
  split <;> decide
/-- A value that is to be set. -/
def WrV (gd gx : Nat) (i j : Int) (A : Option Addr) (n c : Nat) : Array Value := #[.pointer (some ⟨gd, 0, none⟩), .pointer (some ⟨gx, 0, none⟩), .int .i64 i, .int .i64 j, .slice A n c]
section
variable {F G : Nat → Prop} {w : World} {gd gv lc vc gx gv' lc' vc' : Nat} {la la' : Addr} {vA vA' : Option Addr} {xs vs xs' vs' : List Value} {D X : Dc.Dic} {A : Option Addr} {n c : Nat}
set_option maxHeartbeats 1000000 in
theorem own_any (i j : Int) (h : DRt 73 w G gx gv' (some la') lc' vA' vc' xs' vs' X) (hd : ∀ e ∈ X.l, e.dflt.length ≤ 1000000) (hv : ∀ v ∈ X.v, v.length ≤ 1000000) :
    Calls Try.prog 56 #[.agg (WrV gd gx i j A n c)] w fun e w' => e = .returned (.int .i64 (Pm.numD X i j 0)) ∧ Below w.heap.size w w' := by
  unfold WrV
  have b0 := alloc_one w (.cells #[.pointer (some ⟨gd, 0, none⟩), .pointer (some ⟨gx, 0, none⟩), .int .i64 i, .int .i64 j, .slice A n c] 65)
  have K0 := Blk.new w 65 #[.pointer (some ⟨gd, 0, none⟩), .pointer (some ⟨gx, 0, none⟩), .int .i64 i, .int .i64 j, .slice A n c]
  have F0 := K0.cin
  have NU := Lib.hid (number_any i j 0 (h.below b0) hd hv)
  clear h
  go_enter Try.func56, Try.ntmps56
  go_wp2_with fail
  refine (NU.out).mono ?_
  rintro e w1 ⟨rfl, b1⟩
  go_wp2_with fail
  go_ret
  exact ⟨rfl, below_step b0 b1 (Nat.le_refl _)⟩
set_option maxHeartbeats 1000000 in
theorem in_any (i j : Int) (hi : (5120 ≤ i ∧ i ≤ 5123) ∨ (5632 ≤ i ∧ i ≤ 5635)) {k : Int} (hk : k = if i ≤ 5123 then i - 5120 else i - 5632) (h : DRt 73 w G gx gv' (some la') lc' vA' vc' xs' vs' X) (hd : ∀ e ∈ X.l, e.dflt.length ≤ 1000000) (hv : ∀ v ∈ X.v, v.length ≤ 1000000) :
    Calls Try.prog 41 #[.agg (WrV gd gx i j A n c)] w fun e w' => e = .returned (.int .u32 (Pm.inS X k)) ∧ Below w.heap.size w w' := by
  unfold WrV
  have b0 := alloc_one w (.cells #[.pointer (some ⟨gd, 0, none⟩), .pointer (some ⟨gx, 0, none⟩), .int .i64 i, .int .i64 j, .slice A n c] 65)
  have K0 := Blk.new w 65 #[.pointer (some ⟨gd, 0, none⟩), .pointer (some ⟨gx, 0, none⟩), .int .i64 i, .int .i64 j, .slice A n c]
  have F0 := K0.cin
  have RP := Rpdo_any k (h.below b0) hd hv
  have CK := fun (w1 : World) (hb : Below w.heap.size w w1) (v : Nat) (hv' : v < 4294967296) (t : Int) {A : Option Addr} {n c B : Nat} {ws : List Nat} (hw : RW w1 B A n c ws) (hwl : ∀ x ∈ ws, x < 4294967296) (hB : B ≤ w1.heap.size) => RCheck_any v hv' t (h.below hb) hd hw hwl hB
  have hand : bits .and .i64 i 255 = k := by
    subst hk
    rcases hi with ⟨h1, h2⟩ | ⟨h1, h2⟩
    · rcases (show i = 5120 ∨ i = 5121 ∨ i = 5122 ∨ i = 5123 by omega) with rfl | rfl | rfl | rfl <;> decide
    · rcases (show i = 5632 ∨ i = 5633 ∨ i = 5634 ∨ i = 5635 by omega) with rfl | rfl | rfl | rfl <;> decide
  have hio : Pm.inS X k = match Pm.rpdoS X k with | none => 0 | some (v, t, ws) => Rp.checkS X.l v t ws := rfl
  have hro : ∀ v t ws, Pm.rpdoS X k = some (v, t, ws) → v < 4294967296 ∧ ∀ x ∈ ws, x < 4294967296 := by
    intro v t ws e
    unfold Pm.rpdoS at e
    split at e
    · cases e
    · split at e
      · cases e
      · injection e with e
        injection e with e1 e2
        injection e2 with e2 e3
        have := Pm.num_range X (5120 + k) 1
        exact ⟨by omega, by rw [← e3]; exact Pm.wordsK_lt _ _ _⟩
  rw [hio]
  clear hio hk hi h
  generalize Pm.rpdoS X k = o at *
  unfold RpP at RP
  have CK := Lib.hid @CK
  cases o with
  | none =>
    dsimp only at RP ⊢
    replace RP := Lib.hid RP
    clear hro
    go_enter Try.func41, Try.ntmps41
    go_wp2_with fail
    refine (RP.out).mono ?_
    rintro e w1 ⟨rfl, b1⟩
    have b2 := alloc_one w1 (.cells #[.int .u32 0, .int .i64 0, .slice none 0 0] 31)
    go_wp2_with fail
    go_ret
    exact ⟨rfl, below_step (below_step b0 b1 (Nat.le_refl _)) b2 (Nat.le_refl _)⟩
  | some q =>
    obtain ⟨v, t, ws⟩ := q
    dsimp only at RP ⊢
    obtain ⟨hv1, hw1⟩ := hro v t ws rfl
    replace RP := Lib.hid RP
    clear hro
    go_enter Try.func41, Try.ntmps41
    go_wp2_with fail
    refine (RP.out).mono ?_
    rintro e w1 ⟨A1, c1, rfl, o1, b1⟩
    have b2 := alloc_one w1 (.cells #[.int .u32 (v : Int), .int .i64 t, .slice A1 ws.length c1] 31)
    have K2 := (Blk.new w1 31 #[.int .u32 (v : Int), .int .i64 t, .slice A1 ws.length c1]).three
    have F2 := ((K0.later b1).later b2).cin
    have d1 := below_step b0 b1 (Nat.le_refl _)
    have d2 := below_step d1 b2 (Nat.le_refl _)
    have CC := Lib.hid (CK.out _ d2 v hv1 t (o1.below b2).rw hw1 (Nat.le_refl _))
    clear CK F0 o1 hv1 hw1
    go_wp2_with fail
    refine (CC.out).mono ?_
    rintro e w3 ⟨rfl, b3⟩
    go_wp2_with fail
    go_ret
    exact ⟨rfl, below_step d2 b3 (Nat.le_refl _)⟩
set_option maxHeartbeats 1000000 in
theorem out_any (i j : Int) (hi : (6144 ≤ i ∧ i ≤ 6147) ∨ (6656 ≤ i ∧ i ≤ 6659)) {k : Int} (hk : k = if i ≤ 6147 then i - 6144 else i - 6656) (h : DRt 73 w G gx gv' (some la') lc' vA' vc' xs' vs' X) (hd : ∀ e ∈ X.l, e.dflt.length ≤ 1000000) (hv : ∀ v ∈ X.v, v.length ≤ 1000000) :
    Calls Try.prog 42 #[.agg (WrV gd gx i j A n c)] w fun e w' => e = .returned (.int .u32 (Pm.outS X k)) ∧ Below w.heap.size w w' := by
  unfold WrV
  have b0 := alloc_one w (.cells #[.pointer (some ⟨gd, 0, none⟩), .pointer (some ⟨gx, 0, none⟩), .int .i64 i, .int .i64 j, .slice A n c] 65)
  have K0 := Blk.new w 65 #[.pointer (some ⟨gd, 0, none⟩), .pointer (some ⟨gx, 0, none⟩), .int .i64 i, .int .i64 j, .slice A n c]
  have F0 := K0.cin
  have RP := Tpdo_any k (h.below b0) hd hv
  have CK := fun (w1 : World) (hb : Below w.heap.size w w1) (v : Nat) (hv' : v < 4294967296) (t inh ev : Int) {A : Option Addr} {n c B : Nat} {ws : List Nat} (hw : RW w1 B A n c ws) (hwl : ∀ x ∈ ws, x < 4294967296) (hB : B ≤ w1.heap.size) => TCheck_any v hv' t inh ev (h.below hb) hd hw hwl hB
  have hand : bits .and .i64 i 255 = k := by
    subst hk
    rcases hi with ⟨h1, h2⟩ | ⟨h1, h2⟩
    · rcases (show i = 6144 ∨ i = 6145 ∨ i = 6146 ∨ i = 6147 by omega) with rfl | rfl | rfl | rfl <;> decide
    · rcases (show i = 6656 ∨ i = 6657 ∨ i = 6658 ∨ i = 6659 by omega) with rfl | rfl | rfl | rfl <;> decide
  have hio : Pm.outS X k = match Pm.tpdoS X k with | none => 0 | some (v, t, inh, ev, ws) => Tp.checkS X.l v t inh ev ws := rfl
  have hro : ∀ v t inh ev ws, Pm.tpdoS X k = some (v, t, inh, ev, ws) → v < 4294967296 ∧ ∀ x ∈ ws, x < 4294967296 := by
    intro v t inh ev ws e
    unfold Pm.tpdoS at e
    split at e
    · cases e
    · split at e
      · cases e
      · injection e with e
        injection e with e1 e2
        injection e2 with e2 e3
        injection e3 with e3 e4
        injection e4 with e4 e5
        have := Pm.num_range X (6144 + k) 1
        exact ⟨by omega, by rw [← e5]; exact Pm.wordsK_lt _ _ _⟩
  rw [hio]
  clear hio hk hi h
  generalize Pm.tpdoS X k = o at *
  unfold TpP at RP
  have CK := Lib.hid @CK
  cases o with
  | none =>
    dsimp only at RP ⊢
    replace RP := Lib.hid RP
    clear hro
    go_enter Try.func42, Try.ntmps42
    go_wp2_with fail
    refine (RP.out).mono ?_
    rintro e w1 ⟨rfl, b1⟩
    have b2 := alloc_one w1 (.cells #[.int .u32 0, .int .i64 0, .int .i64 0, .int .i64 0, .slice none 0 0] 35)
    go_wp2_with fail
    go_ret
    exact ⟨rfl, below_step (below_step b0 b1 (Nat.le_refl _)) b2 (Nat.le_refl _)⟩
  | some q =>
    obtain ⟨v, t, inh, ev, ws⟩ := q
    dsimp only at RP ⊢
    obtain ⟨hv1, hw1⟩ := hro v t inh ev ws rfl
    replace RP := Lib.hid RP
    clear hro
    go_enter Try.func42, Try.ntmps42
    go_wp2_with fail
    refine (RP.out).mono ?_
    rintro e w1 ⟨A1, c1, rfl, o1, b1⟩
    have b2 := alloc_one w1 (.cells #[.int .u32 (v : Int), .int .i64 t, .int .i64 inh, .int .i64 ev, .slice A1 ws.length c1] 35)
    have K2 := (Blk.new w1 35 #[.int .u32 (v : Int), .int .i64 t, .int .i64 inh, .int .i64 ev, .slice A1 ws.length c1]).cin
    have F2 := ((K0.later b1).later b2).cin
    have d1 := below_step b0 b1 (Nat.le_refl _)
    have d2 := below_step d1 b2 (Nat.le_refl _)
    have CC := Lib.hid (CK.out _ d2 v hv1 t inh ev (o1.below b2).rw hw1 (Nat.le_refl _))
    clear CK F0 o1 hv1 hw1
    go_wp2_with fail
    refine (CC.out).mono ?_
    rintro e w3 ⟨rfl, b3⟩
    go_wp2_with fail
    go_ret
    exact ⟨rfl, below_step d2 b3 (Nat.le_refl _)⟩
set_option maxHeartbeats 1000000 in
theorem signed_any (i j want : Int) {q : Nat} (hq : w.cell? ⟨q, 0, none⟩ = some (.int .i64 want)) (hql : q < w.heap.size) (h : DRt 73 w G gx gv' (some la') lc' vA' vc' xs' vs' X) (hd : ∀ e ∈ X.l, e.dflt.length ≤ 1000000) (hv : ∀ v ∈ X.v, v.length ≤ 1000000) :
    Calls Try.prog 58 #[.agg (WrV gd gx i j A n c), .pointer (some ⟨q, 0, none⟩)] w fun e w' => e = .returned (.int .u32 (Pm.signedS X i j want)) ∧ Below w.heap.size w w' := by
  unfold WrV
  have b0 := alloc_one w (.cells #[.pointer (some ⟨gd, 0, none⟩), .pointer (some ⟨gx, 0, none⟩), .int .i64 i, .int .i64 j, .slice A n c] 65)
  have K0 := Blk.new w 65 #[.pointer (some ⟨gd, 0, none⟩), .pointer (some ⟨gx, 0, none⟩), .int .i64 i, .int .i64 j, .slice A n c]
  have F0 := K0.cin
  have q0 := cell_regrown ((b0.cell (p := ⟨q, 0, none⟩) hql).trans hq)
  have f3 := cell_regrown F0.1.2.2.2.1
  have f0 := cell_regrown F0.1.1
  have f1 := cell_regrown F0.1.2.1
  have f2 := cell_regrown F0.1.2.2.1
  have f4 := cell_regrown F0.1.2.2.2.2
  have OW := own_any (A := A) (n := n) (c := c) (gd := gd) i j (h.below b0) hd hv
  unfold WrV at OW
  have hs : Pm.signedS X i j want = if 1 ≤ j ∧ j ≤ 4 ∧ Pm.numD X i j 0 ≠ want then 134217760 else 0 := rfl
  rw [hs]
  have OQ := fun d os => Calls.regrown_of (own_any (A := A) (n := n) (c := c) (gd := gd) i j ((h.below b0).below (below_regrown _ d os)) hd hv)
  unfold WrV at OQ
  clear h hs F0 OW
  generalize Pm.numD X i j 0 = z at *
  have OQ := Lib.hid OQ
  by_cases h1 : 1 ≤ j
  · by_cases h4 : j ≤ 4
    · have e1 : decide (1 ≤ j) = true := decide_eq_true h1
      have e4 : decide (j ≤ 4) = true := decide_eq_true h4
      by_cases hz : z = want
      · have ez : (z != want) = false := by simpa using hz
        have HS := Lib.hid (show (if 1 ≤ j ∧ j ≤ 4 ∧ z ≠ want then (134217760 : Int) else 0) = 0 from if_neg (fun h => h.2.2 hz))
        rw [HS.out]
        clear hz h1 h4
        go_enter Try.func58, Try.ntmps58
        go_wp2_with fail
        refine wp_region_quiet_below (by kernel_rfl) (by kernel_rfl) ?_
        repeat (go_big_quiet_step (with_reducible exact OQ.out _ _))
        refine wpQuiet_nil ?_
        intro _ hw'
        obtain ⟨⟨dq, osq⟩, hw''⟩ := hw'
        subst hw''
        dsimp only
        go_wp2_with fail
        go_ret
        exact ⟨rfl, below_step b0 (below_regrown _ dq osq) (Nat.le_refl _)⟩
      · have ez : (z != want) = true := by simpa using hz
        have HS := Lib.hid (show (if 1 ≤ j ∧ j ≤ 4 ∧ z ≠ want then (134217760 : Int) else 0) = 134217760 from if_pos ⟨h1, h4, hz⟩)
        rw [HS.out]
        clear hz h1 h4
        go_enter Try.func58, Try.ntmps58
        go_wp2_with fail
        refine wp_region_quiet_below (by kernel_rfl) (by kernel_rfl) ?_
        repeat (go_big_quiet_step (with_reducible exact OQ.out _ _))
        refine wpQuiet_nil ?_
        intro _ hw'
        obtain ⟨⟨dq, osq⟩, hw''⟩ := hw'
        subst hw''
        dsimp only
        go_wp2_with fail
        go_ret
        exact ⟨rfl, below_step b0 (below_regrown _ dq osq) (Nat.le_refl _)⟩
    · have e1 : decide (1 ≤ j) = true := decide_eq_true h1
      have e4 : decide (j ≤ 4) = false := decide_eq_false h4
      rw [if_neg (fun h => h4 h.2.1)]
      clear h1 h4
      go_enter Try.func58, Try.ntmps58
      go_wp2_with fail
      refine wp_region_quiet_below (by kernel_rfl) (by kernel_rfl) ?_
      repeat (go_big_quiet_step (with_reducible exact OQ.out _ _))
      refine wpQuiet_nil ?_
      intro _ hw'
      obtain ⟨⟨dq, osq⟩, hw''⟩ := hw'
      subst hw''
      dsimp only
      go_wp2_with fail
      go_ret
      exact ⟨rfl, below_step b0 (below_regrown _ dq osq) (Nat.le_refl _)⟩
  · have e1 : decide (1 ≤ j) = false := decide_eq_false h1
    rw [if_neg (fun h => h1 h.1)]
    clear h1
    go_enter Try.func58, Try.ntmps58
    go_wp2_with fail
    refine wp_region_quiet_below (by kernel_rfl) (by kernel_rfl) ?_
    repeat (go_big_quiet_step (with_reducible exact OQ.out _ _))
    refine wpQuiet_nil ?_
    intro _ hw'
    obtain ⟨⟨dq, osq⟩, hw''⟩ := hw'
    subst hw''
    dsimp only
    go_wp2_with fail
    go_ret
    exact ⟨rfl, below_step b0 (below_regrown _ dq osq) (Nat.le_refl _)⟩
set_option maxRecDepth 100000 in
set_option maxHeartbeats 2000000 in
theorem mapped_in (i j : Int) (hi : 5632 ≤ i ∧ i ≤ 5635) {q1 q2 : Nat} (hq1 : w.cell? ⟨q1, 0, none⟩ = some (.int .i64 512)) (hq2 : w.cell? ⟨q2, 0, none⟩ = some (.func (.func 41) #[] #[])) (hql1 : q1 < w.heap.size) (hql2 : q2 < w.heap.size)
    (h : DRt 73 w F gd gv (some la) lc vA vc xs vs D) (hd : ∀ e ∈ D.l, e.dflt.length ≤ 1000000) (hv : ∀ v ∈ D.v, v.length ≤ 1000000) (h' : DRt 73 w G gx gv' (some la') lc' vA' vc' xs' vs' X) (hd' : ∀ e ∈ X.l, e.dflt.length ≤ 1000000) (hv' : ∀ v ∈ X.v, v.length ≤ 1000000) :
    Calls Try.prog 63 #[.agg (WrV gd gx i j A n c), .pointer (some ⟨q1, 0, none⟩), .pointer (some ⟨q2, 0, none⟩)] w fun e w' => e = .returned (.int .u32 (Pm.mappedS D X i j 512 (Pm.inS X (i - 5632)))) ∧ Below w.heap.size w w' := by
  unfold WrV
  have b0 := alloc_one w (.cells #[.pointer (some ⟨gd, 0, none⟩), .pointer (some ⟨gx, 0, none⟩), .int .i64 i, .int .i64 j, .slice A n c] 65)
  have K0 := Blk.new w 65 #[.pointer (some ⟨gd, 0, none⟩), .pointer (some ⟨gx, 0, none⟩), .int .i64 i, .int .i64 j, .slice A n c]
  have F0 := K0.cin
  have hms : Pm.mappedS D X i j 512 (Pm.inS X (i - 5632)) = if 0 < j then (if Pm.numD D i 0 0 ≠ 0 then 100728832 else 0) else if Pm.numD X i j 0 = 0 then 0 else if (Pm.numS D (i - 512) 1).2 = true ∧ (Pm.numS D (i - 512) 1).1 < 2147483648 then 100728832 else if 8 < Pm.numD X i j 0 then 100925506 else Pm.inS X (i - 5632) := rfl
  rw [hms]
  clear hms
  have eg : ∀ args w, (callFunc 41 args).run Try.prog w = .ok (.enter 41 args) w := fun args w => by kernel_rfl
  by_cases hj : 0 < j
  · rw [if_pos hj]
    have NU := number_any i 0 0 (h.below b0) hd hv
    clear h h'
    generalize Pm.numD D i 0 0 = z at *
    by_cases hz : z = 0
    · rw [if_neg (by simpa using hz)]
      have ez : (z != 0) = false := by simpa using hz
      replace NU := Lib.hid NU
      clear hz
      go_enter Try.func63, Try.ntmps63
      go_wp2_with fail
      refine (NU.out).mono ?_
      rintro e w1 ⟨rfl, b1⟩
      go_wp2_with fail
      go_ret
      exact ⟨rfl, below_step b0 b1 (Nat.le_refl _)⟩
    · rw [if_pos hz]
      have ez : (z != 0) = true := by simpa using hz
      replace NU := Lib.hid NU
      clear hz
      go_enter Try.func63, Try.ntmps63
      go_wp2_with fail
      refine (NU.out).mono ?_
      rintro e w1 ⟨rfl, b1⟩
      go_wp2_with fail
      go_ret
      exact ⟨rfl, below_step b0 b1 (Nat.le_refl _)⟩
  · rw [if_neg hj]
    have OW := own_any (A := A) (n := n) (c := c) (gd := gd) i j (h'.below b0) hd' hv'
    have N1 := fun (w1 : World) (hb : Below w.heap.size w w1) => Number_any (i - 512) 1 (h.below hb) hd hv
    have IN := fun (w1 : World) (hb : Below w.heap.size w w1) => in_any (A := A) (n := n) (c := c) (gd := gd) i j (.inr hi) (k := i - 5632) (by rw [if_neg (by omega)]) (h'.below hb) hd' hv'
    have hnn := num_nat D (i - 512) 1
    unfold WrV at OW IN
    generalize Pm.numD X i j 0 = z at *
    generalize Pm.numS D (i - 512) 1 = u at *
    generalize Pm.inS X (i - 5632) = r at *
    obtain ⟨u1, u2⟩ := u
    dsimp only at hnn N1 ⊢
    obtain ⟨y, rfl, hy⟩ := hnn
    have hb31 := and_bit64 y hy
    replace OW := Lib.hid OW; replace N1 := Lib.hid N1; replace IN := Lib.hid IN
    have i1 : -1 ≤ i := by omega
    have i2 : i ≤ 10000 := by omega
    clear h h' hi hd hv hd' hv'
    by_cases hz : z = 0
    · rw [if_pos hz]
      have ez : (z == 0) = true := by simpa using hz
      clear hz
      go_enter Try.func63, Try.ntmps63
      go_wp2_with fail
      refine (OW.out).mono ?_
      rintro e w1 ⟨rfl, b1⟩
      have d1 := below_step b0 b1 (Nat.le_refl _)
      have F1 := (K0.later b1).cin
      have p1 := (d1.cell (p := ⟨q1, 0, none⟩) hql1).trans hq1
      clear F0
      go_wp2_with fail
      refine (N1.out _ d1).mono ?_
      rintro e w2 ⟨rfl, b2⟩
      go_wp2_with fail
      go_ret
      exact ⟨rfl, below_step d1 b2 (Nat.le_refl _)⟩
    · rw [if_neg hz]
      have ez : (z == 0) = false := by simpa using hz
      clear hz
      by_cases hon : u2 = true ∧ (y : Int) < 2147483648
      · rw [if_pos hon]
        obtain ⟨rfl, hy2⟩ := hon
        rw [if_pos (by omega)] at hb31
        clear hy hy2
        go_enter Try.func63, Try.ntmps63
        go_wp2_with fail
        refine (OW.out).mono ?_
        rintro e w1 ⟨rfl, b1⟩
        have d1 := below_step b0 b1 (Nat.le_refl _)
        have F1 := (K0.later b1).cin
        have p1 := (d1.cell (p := ⟨q1, 0, none⟩) hql1).trans hq1
        clear F0
        go_wp2_with fail
        refine (N1.out _ d1).mono ?_
        rintro e w2 ⟨rfl, b2⟩
        have d2 := below_step d1 b2 (Nat.le_refl _)
        go_wp2_with fail
        go_ret
        exact ⟨rfl, d2⟩
      · rw [if_neg hon]
        by_cases h8 : 8 < z
        · rw [if_pos h8]
          cases u2
          · clear hb31 hon hy
            go_enter Try.func63, Try.ntmps63
            go_wp2_with fail
            refine (OW.out).mono ?_
            rintro e w1 ⟨rfl, b1⟩
            have d1 := below_step b0 b1 (Nat.le_refl _)
            have F1 := (K0.later b1).cin
            have p1 := (d1.cell (p := ⟨q1, 0, none⟩) hql1).trans hq1
            clear F0
            go_wp2_with fail
            refine (N1.out _ d1).mono ?_
            rintro e w2 ⟨rfl, b2⟩
            have d2 := below_step d1 b2 (Nat.le_refl _)
            go_wp2_with fail
            go_ret
            exact ⟨rfl, d2⟩
          · rw [if_neg (fun h => hon ⟨rfl, by omega⟩)] at hb31
            clear hon hy
            go_enter Try.func63, Try.ntmps63
            go_wp2_with fail
            refine (OW.out).mono ?_
            rintro e w1 ⟨rfl, b1⟩
            have d1 := below_step b0 b1 (Nat.le_refl _)
            have F1 := (K0.later b1).cin
            have p1 := (d1.cell (p := ⟨q1, 0, none⟩) hql1).trans hq1
            clear F0
            go_wp2_with fail
            refine (N1.out _ d1).mono ?_
            rintro e w2 ⟨rfl, b2⟩
            have d2 := below_step d1 b2 (Nat.le_refl _)
            go_wp2_with fail
            go_ret
            exact ⟨rfl, d2⟩
        · rw [if_neg h8]
          cases u2
          · clear hb31 hon hy
            go_enter Try.func63, Try.ntmps63
            go_wp2_with fail
            refine (OW.out).mono ?_
            rintro e w1 ⟨rfl, b1⟩
            have d1 := below_step b0 b1 (Nat.le_refl _)
            have F1 := (K0.later b1).cin
            have p1 := (d1.cell (p := ⟨q1, 0, none⟩) hql1).trans hq1
            clear F0
            go_wp2_with fail
            refine (N1.out _ d1).mono ?_
            rintro e w2 ⟨rfl, b2⟩
            have d2 := below_step d1 b2 (Nat.le_refl _)
            have F2 := ((K0.later b1).later b2).cin
            have p2 := (d2.cell (p := ⟨q2, 0, none⟩) hql2).trans hq2
            clear F1
            go_wp2_with fail
            refine (IN.out _ d2).mono ?_
            rintro e w3 ⟨rfl, b3⟩
            go_wp2_with fail
            go_ret
            exact ⟨rfl, below_step d2 b3 (Nat.le_refl _)⟩
          · rw [if_neg (fun h => hon ⟨rfl, by omega⟩)] at hb31
            clear hon hy
            go_enter Try.func63, Try.ntmps63
            go_wp2_with fail
            refine (OW.out).mono ?_
            rintro e w1 ⟨rfl, b1⟩
            have d1 := below_step b0 b1 (Nat.le_refl _)
            have F1 := (K0.later b1).cin
            have p1 := (d1.cell (p := ⟨q1, 0, none⟩) hql1).trans hq1
            clear F0
            go_wp2_with fail
            refine (N1.out _ d1).mono ?_
            rintro e w2 ⟨rfl, b2⟩
            have d2 := below_step d1 b2 (Nat.le_refl _)
            have F2 := ((K0.later b1).later b2).cin
            have p2 := (d2.cell (p := ⟨q2, 0, none⟩) hql2).trans hq2
            clear F1
            go_wp2_with fail
            refine (IN.out _ d2).mono ?_
            rintro e w3 ⟨rfl, b3⟩
            go_wp2_with fail
            go_ret
            exact ⟨rfl, below_step d2 b3 (Nat.le_refl _)⟩
set_option maxRecDepth 100000 in
set_option maxHeartbeats 2000000 in
theorem mapped_out (i j : Int) (hi : 6656 ≤ i ∧ i ≤ 6659) {q1 q2 : Nat} (hq1 : w.cell? ⟨q1, 0, none⟩ = some (.int .i64 512)) (hq2 : w.cell? ⟨q2, 0, none⟩ = some (.func (.func 42) #[] #[])) (hql1 : q1 < w.heap.size) (hql2 : q2 < w.heap.size)
    (h : DRt 73 w F gd gv (some la) lc vA vc xs vs D) (hd : ∀ e ∈ D.l, e.dflt.length ≤ 1000000) (hv : ∀ v ∈ D.v, v.length ≤ 1000000) (h' : DRt 73 w G gx gv' (some la') lc' vA' vc' xs' vs' X) (hd' : ∀ e ∈ X.l, e.dflt.length ≤ 1000000) (hv' : ∀ v ∈ X.v, v.length ≤ 1000000) :
    Calls Try.prog 63 #[.agg (WrV gd gx i j A n c), .pointer (some ⟨q1, 0, none⟩), .pointer (some ⟨q2, 0, none⟩)] w fun e w' => e = .returned (.int .u32 (Pm.mappedS D X i j 512 (Pm.outS X (i - 6656)))) ∧ Below w.heap.size w w' := by
  unfold WrV
  have b0 := alloc_one w (.cells #[.pointer (some ⟨gd, 0, none⟩), .pointer (some ⟨gx, 0, none⟩), .int .i64 i, .int .i64 j, .slice A n c] 65)
  have K0 := Blk.new w 65 #[.pointer (some ⟨gd, 0, none⟩), .pointer (some ⟨gx, 0, none⟩), .int .i64 i, .int .i64 j, .slice A n c]
  have F0 := K0.cin
  have hms : Pm.mappedS D X i j 512 (Pm.outS X (i - 6656)) = if 0 < j then (if Pm.numD D i 0 0 ≠ 0 then 100728832 else 0) else if Pm.numD X i j 0 = 0 then 0 else if (Pm.numS D (i - 512) 1).2 = true ∧ (Pm.numS D (i - 512) 1).1 < 2147483648 then 100728832 else if 8 < Pm.numD X i j 0 then 100925506 else Pm.outS X (i - 6656) := rfl
  rw [hms]
  clear hms
  have eg : ∀ args w, (callFunc 42 args).run Try.prog w = .ok (.enter 42 args) w := fun args w => by kernel_rfl
  by_cases hj : 0 < j
  · rw [if_pos hj]
    have NU := number_any i 0 0 (h.below b0) hd hv
    clear h h'
    generalize Pm.numD D i 0 0 = z at *
    by_cases hz : z = 0
    · rw [if_neg (by simpa using hz)]
      have ez : (z != 0) = false := by simpa using hz
      replace NU := Lib.hid NU
      clear hz
      go_enter Try.func63, Try.ntmps63
      go_wp2_with fail
      refine (NU.out).mono ?_
      rintro e w1 ⟨rfl, b1⟩
      go_wp2_with fail
      go_ret
      exact ⟨rfl, below_step b0 b1 (Nat.le_refl _)⟩
    · rw [if_pos hz]
      have ez : (z != 0) = true := by simpa using hz
      replace NU := Lib.hid NU
      clear hz
      go_enter Try.func63, Try.ntmps63
      go_wp2_with fail
      refine (NU.out).mono ?_
      rintro e w1 ⟨rfl, b1⟩
      go_wp2_with fail
      go_ret
      exact ⟨rfl, below_step b0 b1 (Nat.le_refl _)⟩
  · rw [if_neg hj]
    have OW := own_any (A := A) (n := n) (c := c) (gd := gd) i j (h'.below b0) hd' hv'
    have N1 := fun (w1 : World) (hb : Below w.heap.size w w1) => Number_any (i - 512) 1 (h.below hb) hd hv
    have IN := fun (w1 : World) (hb : Below w.heap.size w w1) => out_any (A := A) (n := n) (c := c) (gd := gd) i j (.inr hi) (k := i - 6656) (by rw [if_neg (by omega)]) (h'.below hb) hd' hv'
    have hnn := num_nat D (i - 512) 1
    unfold WrV at OW IN
    generalize Pm.numD X i j 0 = z at *
    generalize Pm.numS D (i - 512) 1 = u at *
    generalize Pm.outS X (i - 6656) = r at *
    obtain ⟨u1, u2⟩ := u
    dsimp only at hnn N1 ⊢
    obtain ⟨y, rfl, hy⟩ := hnn
    have hb31 := and_bit64 y hy
    replace OW := Lib.hid OW; replace N1 := Lib.hid N1; replace IN := Lib.hid IN
    have i1 : -1 ≤ i := by omega
    have i2 : i ≤ 10000 := by omega
    clear h h' hi hd hv hd' hv'
    by_cases hz : z = 0
    · rw [if_pos hz]
      have ez : (z == 0) = true := by simpa using hz
      clear hz
      go_enter Try.func63, Try.ntmps63
      go_wp2_with fail
      refine (OW.out).mono ?_
      rintro e w1 ⟨rfl, b1⟩
      have d1 := below_step b0 b1 (Nat.le_refl _)
      have F1 := (K0.later b1).cin
      have p1 := (d1.cell (p := ⟨q1, 0, none⟩) hql1).trans hq1
      clear F0
      go_wp2_with fail
      refine (N1.out _ d1).mono ?_
      rintro e w2 ⟨rfl, b2⟩
      go_wp2_with fail
      go_ret
      exact ⟨rfl, below_step d1 b2 (Nat.le_refl _)⟩
    · rw [if_neg hz]
      have ez : (z == 0) = false := by simpa using hz
      clear hz
      by_cases hon : u2 = true ∧ (y : Int) < 2147483648
      · rw [if_pos hon]
        obtain ⟨rfl, hy2⟩ := hon
        rw [if_pos (by omega)] at hb31
        clear hy hy2
        go_enter Try.func63, Try.ntmps63
        go_wp2_with fail
        refine (OW.out).mono ?_
        rintro e w1 ⟨rfl, b1⟩
        have d1 := below_step b0 b1 (Nat.le_refl _)
        have F1 := (K0.later b1).cin
        have p1 := (d1.cell (p := ⟨q1, 0, none⟩) hql1).trans hq1
        clear F0
        go_wp2_with fail
        refine (N1.out _ d1).mono ?_
        rintro e w2 ⟨rfl, b2⟩
        have d2 := below_step d1 b2 (Nat.le_refl _)
        go_wp2_with fail
        go_ret
        exact ⟨rfl, d2⟩
      · rw [if_neg hon]
        by_cases h8 : 8 < z
        · rw [if_pos h8]
          cases u2
          · clear hb31 hon hy
            go_enter Try.func63, Try.ntmps63
            go_wp2_with fail
            refine (OW.out).mono ?_
            rintro e w1 ⟨rfl, b1⟩
            have d1 := below_step b0 b1 (Nat.le_refl _)
            have F1 := (K0.later b1).cin
            have p1 := (d1.cell (p := ⟨q1, 0, none⟩) hql1).trans hq1
            clear F0
            go_wp2_with fail
            refine (N1.out _ d1).mono ?_
            rintro e w2 ⟨rfl, b2⟩
            have d2 := below_step d1 b2 (Nat.le_refl _)
            go_wp2_with fail
            go_ret
            exact ⟨rfl, d2⟩
          · rw [if_neg (fun h => hon ⟨rfl, by omega⟩)] at hb31
            clear hon hy
            go_enter Try.func63, Try.ntmps63
            go_wp2_with fail
            refine (OW.out).mono ?_
            rintro e w1 ⟨rfl, b1⟩
            have d1 := below_step b0 b1 (Nat.le_refl _)
            have F1 := (K0.later b1).cin
            have p1 := (d1.cell (p := ⟨q1, 0, none⟩) hql1).trans hq1
            clear F0
            go_wp2_with fail
            refine (N1.out _ d1).mono ?_
            rintro e w2 ⟨rfl, b2⟩
            have d2 := below_step d1 b2 (Nat.le_refl _)
            go_wp2_with fail
            go_ret
            exact ⟨rfl, d2⟩
        · rw [if_neg h8]
          cases u2
          · clear hb31 hon hy
            go_enter Try.func63, Try.ntmps63
            go_wp2_with fail
            refine (OW.out).mono ?_
            rintro e w1 ⟨rfl, b1⟩
            have d1 := below_step b0 b1 (Nat.le_refl _)
            have F1 := (K0.later b1).cin
            have p1 := (d1.cell (p := ⟨q1, 0, none⟩) hql1).trans hq1
            clear F0
            go_wp2_with fail
            refine (N1.out _ d1).mono ?_
            rintro e w2 ⟨rfl, b2⟩
            have d2 := below_step d1 b2 (Nat.le_refl _)
            have F2 := ((K0.later b1).later b2).cin
            have p2 := (d2.cell (p := ⟨q2, 0, none⟩) hql2).trans hq2
            clear F1
            go_wp2_with fail
            refine (IN.out _ d2).mono ?_
            rintro e w3 ⟨rfl, b3⟩
            go_wp2_with fail
            go_ret
            exact ⟨rfl, below_step d2 b3 (Nat.le_refl _)⟩
          · rw [if_neg (fun h => hon ⟨rfl, by omega⟩)] at hb31
            clear hon hy
            go_enter Try.func63, Try.ntmps63
            go_wp2_with fail
            refine (OW.out).mono ?_
            rintro e w1 ⟨rfl, b1⟩
            have d1 := below_step b0 b1 (Nat.le_refl _)
            have F1 := (K0.later b1).cin
            have p1 := (d1.cell (p := ⟨q1, 0, none⟩) hql1).trans hq1
            clear F0
            go_wp2_with fail
            refine (N1.out _ d1).mono ?_
            rintro e w2 ⟨rfl, b2⟩
            have d2 := below_step d1 b2 (Nat.le_refl _)
            have F2 := ((K0.later b1).later b2).cin
            have p2 := (d2.cell (p := ⟨q2, 0, none⟩) hql2).trans hq2
            clear F1
            go_wp2_with fail
            refine (IN.out _ d2).mono ?_
            rintro e w3 ⟨rfl, b3⟩
            go_wp2_with fail
            go_ret
            exact ⟨rfl, below_step d2 b3 (Nat.le_refl _)⟩
end
end Go.Proofs.Ytgkhpebhhkdgoaa
/-
  Walks: what is asked of places whose answer is not told (layer 33).
  Conditions: none.
-/
namespace Go.Proofs.Ytgkhpebhhkdgoaa
set_option linter.unusedVariables false
set_option linter.unusedSimpArgs false
open Go.RowKit Go.Sort
/-- Some number, and nothing old written. -/
def SomeP (kd : IntKind) (w : World) (e : Ending) (w' : World) : Prop := (∃ c : Int, e = .returned (.int kd c)) ∧ Below w.heap.size w w'
section
variable {F G : Nat → Prop} {w : World} {gd gv lc vc gx gv' lc' vc' : Nat} {la la' : Addr} {vA vA' : Option Addr} {xs vs xs' vs' : List Value} {D X : Dc.Dic} {A : Option Addr} {n c : Nat}
set_option maxHeartbeats 1000000 in
theorem wiped_any (i j : Int) (h : DRt 73 w G gx gv' (some la') lc' vA' vc' xs' vs' X) (hd : ∀ e ∈ X.l, e.dflt.length ≤ 1000000) (hv : ∀ v ∈ X.v, v.length ≤ 1000000) :
    Calls Try.prog 37 #[.agg (WrV gd gx i j A n c)] w (SomeP .u32 w) := by
  have OW := fun (w1 : World) (hb : Below w.heap.size w w1) => own_any (A := A) (n := n) (c := c) (gd := gd) i j (h.below hb) hd hv
  unfold WrV at OW ⊢
  have b0 := alloc_one w (.cells #[.pointer (some ⟨gd, 0, none⟩), .pointer (some ⟨gx, 0, none⟩), .int .i64 i, .int .i64 j, .slice A n c] 65)
  have K0 := Blk.new w 65 #[.pointer (some ⟨gd, 0, none⟩), .pointer (some ⟨gx, 0, none⟩), .int .i64 i, .int .i64 j, .slice A n c]
  have F0 := K0.cin
  clear h
  generalize Pm.numD X i j 0 = z at *
  replace OW := Lib.hid OW
  by_cases hj : j = 0
  · have ej : (j == 0) = true := by simpa using hj
    clear hj
    go_enter Try.func37, Try.ntmps37
    go_wp2_with fail
    refine (OW.out _ b0).mono ?_
    rintro e w1 ⟨rfl, b1⟩
    by_cases hz : z = 0
    · have ez : (z != 0) = false := by simpa using hz
      clear hz
      go_wp2_with fail
      go_ret
      exact ⟨⟨_, rfl⟩, below_step b0 b1 (Nat.le_refl _)⟩
    · have ez : (z != 0) = true := by simpa using hz
      clear hz
      go_wp2_with fail
      go_ret
      exact ⟨⟨_, rfl⟩, below_step b0 b1 (Nat.le_refl _)⟩
  · have ej : (j == 0) = false := by simpa using hj
    clear hj
    go_enter Try.func37, Try.ntmps37
    go_wp2_with fail
    go_ret
    exact ⟨⟨_, rfl⟩, b0⟩
set_option maxRecDepth 100000 in
set_option maxHeartbeats 2000000 in
theorem PulseChk_some (v : Nat) (hv : v < 4294967296) (o : Int) : Calls Try.prog 57 #[.int .u32 (v : Int), .int .i64 o] w (SomeP .i64 w) := by
  cases hb : Cob.bad v with
  | true =>
    have SP := Lib.hid (CSplit_bad v hv hb w)
    clear hb
    go_enter Try.func57, Try.ntmps57
    go_wp2_with fail
    refine (SP.out).mono ?_
    rintro e w1 ⟨rfl, b1⟩
    have b2 := alloc_one w1 (.cells #[.bool false, .bool false, .int .i64 0] 118)
    have F2 := (Blk.new w1 118 #[.bool false, .bool false, .int .i64 0]).three
    go_wp2_with fail
    go_ret
    exact ⟨⟨_, rfl⟩, below_step b1 b2 (Nat.le_refl _)⟩
  | false =>
    have SP := Lib.hid (CSplit_ok v hv hb w)
    have RS := Lib.hid (fun w => Restricted_any (Cob.id v : Int) w)
    clear hb hv
    generalize Cob.off v = of_ at *
    generalize Cob.noR v = nr at *
    generalize (Cob.id v : Int) = id_ at *
    generalize Cob.restr id_ = rs at *
    have ho : o = 0 ∨ (o ≠ 0 ∧ o < 2) ∨ (2 ≤ o ∧ 240 < o) ∨ (2 ≤ o ∧ o ≤ 240) := by omega
    cases nr
    · cases rs
      · rcases ho with rfl | ⟨h0, h1⟩ | ⟨h1, h2⟩ | ⟨h1, h2⟩
        · go_enter Try.func57, Try.ntmps57
          go_wp2_with fail
          refine (SP.out).mono ?_
          rintro e w1 ⟨rfl, b1⟩
          have b2 := alloc_one w1 (.cells #[.bool of_, .bool false, .int .i64 id_] 118)
          have F2 := (Blk.new w1 118 #[.bool of_, .bool false, .int .i64 id_]).three
          go_wp2_with fail
          refine (RS.out _).mono ?_
          rintro e _ ⟨rfl, rfl⟩
          go_wp2_with fail
          go_ret
          exact ⟨⟨_, rfl⟩, below_step b1 b2 (Nat.le_refl _)⟩
        all_goals
          have e0 : (o == 0) = false := by rw [beq_eq_false_iff_ne]; omega
          have e1 : (o != 0) = true := by rw [bne_iff_ne]; omega
          try clear h0
          go_enter Try.func57, Try.ntmps57
          go_wp2_with fail
          refine (SP.out).mono ?_
          rintro e w1 ⟨rfl, b1⟩
          have b2 := alloc_one w1 (.cells #[.bool of_, .bool false, .int .i64 id_] 118)
          have F2 := (Blk.new w1 118 #[.bool of_, .bool false, .int .i64 id_]).three
          go_wp2_with fail
          refine (RS.out _).mono ?_
          rintro e _ ⟨rfl, rfl⟩
          go_wp2_with fail
          go_ret
          exact ⟨⟨_, rfl⟩, below_step b1 b2 (Nat.le_refl _)⟩
      · clear ho
        go_enter Try.func57, Try.ntmps57
        go_wp2_with fail
        refine (SP.out).mono ?_
        rintro e w1 ⟨rfl, b1⟩
        have b2 := alloc_one w1 (.cells #[.bool of_, .bool false, .int .i64 id_] 118)
        have F2 := (Blk.new w1 118 #[.bool of_, .bool false, .int .i64 id_]).three
        go_wp2_with fail
        refine (RS.out _).mono ?_
        rintro e _ ⟨rfl, rfl⟩
        go_wp2_with fail
        go_ret
        exact ⟨⟨_, rfl⟩, below_step b1 b2 (Nat.le_refl _)⟩
    · clear ho RS
      go_enter Try.func57, Try.ntmps57
      go_wp2_with fail
      refine (SP.out).mono ?_
      rintro e w1 ⟨rfl, b1⟩
      have b2 := alloc_one w1 (.cells #[.bool of_, .bool true, .int .i64 id_] 118)
      have F2 := (Blk.new w1 118 #[.bool of_, .bool true, .int .i64 id_]).three
      go_wp2_with fail
      go_ret
      exact ⟨⟨_, rfl⟩, below_step b1 b2 (Nat.le_refl _)⟩
set_option maxRecDepth 100000 in
set_option maxHeartbeats 2000000 in
theorem pulses_any (i j : Int) (h : DRt 73 w G gx gv' (some la') lc' vA' vc' xs' vs' X) (hd : ∀ e ∈ X.l, e.dflt.length ≤ 1000000) (hv : ∀ v ∈ X.v, v.length ≤ 1000000) :
    Calls Try.prog 38 #[.agg (WrV gd gx i j A n c)] w (SomeP .u32 w) := by
  unfold WrV
  have b0 := alloc_one w (.cells #[.pointer (some ⟨gd, 0, none⟩), .pointer (some ⟨gx, 0, none⟩), .int .i64 i, .int .i64 j, .slice A n c] 65)
  have K0 := Blk.new w 65 #[.pointer (some ⟨gd, 0, none⟩), .pointer (some ⟨gx, 0, none⟩), .int .i64 i, .int .i64 j, .slice A n c]
  have F0 := K0.cin
  have SY := Sync_any (h.below b0) hd hv
  have hro : ∀ v o, Pm.syncS X = some (v, o) → v < 4294967296 := by
    intro v o e
    unfold Pm.syncS at e
    split at e
    · cases e
    · injection e with e
      injection e with e1 e2
      have := Pm.num_range X 4101 0
      omega
  clear h
  generalize Pm.syncS X = sy at *
  unfold SyncP at SY
  cases sy with
  | none =>
    dsimp only at SY
    replace SY := Lib.hid SY
    clear hro
    go_enter Try.func38, Try.ntmps38
    go_wp2_with fail
    refine (SY.out).mono ?_
    rintro e w1 ⟨rfl, b1⟩
    go_wp2_with fail
    go_ret
    exact ⟨⟨_, rfl⟩, below_step b0 b1 (Nat.le_refl _)⟩
  | some q =>
    obtain ⟨v, o⟩ := q
    dsimp only at SY
    have PC := Lib.hid (fun w => PulseChk_some (w := w) v (hro v o rfl) o)
    replace SY := Lib.hid SY
    clear hro
    by_cases hj : j = 0
    · have ej : (j == 0) = true := by simpa using hj
      have ej2 : (j != 0) = false := by simpa using hj
      clear hj
      go_enter Try.func38, Try.ntmps38
      go_wp2_with fail
      refine (SY.out).mono ?_
      rintro e w1 ⟨rfl, b1⟩
      have F1 := (K0.later b1).cin
      have d1 := below_step b0 b1 (Nat.le_refl _)
      clear F0
      go_wp2_with fail
      refine (PC.out _).mono ?_
      rintro e w2 ⟨⟨cc, rfl⟩, b2⟩
      have d2 := below_step d1 b2 (Nat.le_refl _)
      clear F1
      by_cases h4 : cc = 4
      · subst h4
        go_wp2_with fail
        go_ret
        exact ⟨⟨_, rfl⟩, d2⟩
      · have e4 : (cc == 4) = false := by simpa using h4
        by_cases h9 : cc = 9
        · subst h9
          go_wp2_with fail
          go_ret
          exact ⟨⟨_, rfl⟩, d2⟩
        · have e9 : (cc == 9) = false := by simpa using h9
          clear h4 h9
          go_wp2_with fail
          go_ret
          exact ⟨⟨_, rfl⟩, d2⟩
    · have ej : (j == 0) = false := by simpa using hj
      have ej2 : (j != 0) = true := by simpa using hj
      clear hj
      go_enter Try.func38, Try.ntmps38
      go_wp2_with fail
      refine (SY.out).mono ?_
      rintro e w1 ⟨rfl, b1⟩
      have F1 := (K0.later b1).cin
      have d1 := below_step b0 b1 (Nat.le_refl _)
      clear F0
      go_wp2_with fail
      go_ret
      exact ⟨⟨_, rfl⟩, d1⟩
end
end Go.Proofs.Ytgkhpebhhkdgoaa
