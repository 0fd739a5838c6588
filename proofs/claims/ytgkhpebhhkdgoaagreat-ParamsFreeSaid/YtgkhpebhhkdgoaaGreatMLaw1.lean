/-
  Walk: ParamsFree.
  Conditions: none.
-/
import Derived.Test.YtgkhpebhhkdgoaaGreatJ04
import Derived.Test.YtgkhpebhhkdgoaaGreatJ22
namespace Go.Proofs.YtgkhpebhhkdgoaaGreat
set_option linter.unusedVariables false
set_option linter.unusedSimpArgs false
open Go.ChangeShapes Go.WideShapes Go.ChangeAt Go.RowKit Go.Sort
theorem guards_free {D : Dc.Dic} {i j : Int} {b : List UInt8} {r : Int} (hi : i < 4096 ∨ 8191 < i) (h : Pm.Guards D i j b r) : r = Dc.mayS D.l false i j b := by
  unfold Pm.Guards at h
  by_cases hm : Dc.mayS D.l false i j b = 0
  · rw [if_neg (by simpa using hm)] at h
    rw [hm]
    exact h 0 (by unfold Pm.askS; rw [if_neg (by omega), if_neg (by omega), if_neg (by omega), if_neg (by omega), if_neg (by omega), if_neg (by omega), if_neg (by omega)])
  · rw [if_pos hm] at h
    exact h
set_option maxHeartbeats 1000000 in
theorem Command_free (i j : Int) (hi : i < 4096 ∨ 8191 < i) {w : World} {A : Option Addr} {n c B : Nat} {b : List UInt8} (h : RB w B A n c b) (hB : B ≤ w.heap.size) : Calls Tryz.prog 8 #[.agg #[.int .i64 i, .int .i64 j, .slice A n c]] w fun e w' => e = .returned (.tuple #[.int .i64 0, .int .i64 0]) ∧ Below w.heap.size w w' := by
  have b0 := alloc_one w (.cells #[.int .i64 i, .int .i64 j, .slice A n c] 26)
  have F0 := (Blk.new w 26 #[.int .i64 i, .int .i64 j, .slice A n c]).three
  have e1 := convb (h.below (b0.mono hB))
  have e2 : (i == 4112) = false := by rw [beq_eq_false_iff_ne]; omega
  have e3 : (i == 4113) = false := by rw [beq_eq_false_iff_ne]; omega
  clear h hi
  by_cases h1 : j < 1
  · go_enter Tryz.func8, Tryz.ntmps8
    go_wp2_with fail
    go_ret2
    exact ⟨rfl, b0⟩
  · by_cases h4 : 4 < j
    · go_enter Tryz.func8, Tryz.ntmps8
      go_wp2_with fail
      go_ret2
      exact ⟨rfl, b0⟩
    · go_enter Tryz.func8, Tryz.ntmps8
      go_wp2_with fail
      go_ret2
      exact ⟨rfl, b0⟩
set_option maxRecDepth 100000 in
set_option maxHeartbeats 4000000 in
theorem ParamsFree_walk (W : World) {A0 A1 A2 : Option Addr} {n0 c0 n1 c1 n2 c2 : Nat} {xi xj : Int} {es : List Ent.En} {vls : List Dc.Vl} {bs : List UInt8} (h0 : REn W W.heap.size W.heap.size A0 n0 c0 es) (hnm : ∀ e ∈ es, e.name.length ≤ 9223372036854775807) (h1 : RVl W W.heap.size W.heap.size A1 n1 c1 vls) (wi : (Lit.int .i64 xi).wf = true) (wj : (Lit.int .i64 xj).wf = true) (h2 : RB W W.heap.size A2 n2 c2 bs) :
    Calls Tryz.prog 3 #[.agg #[.slice A0 n0 c0, .slice A1 n1 c1, .int .i64 xi, .int .i64 xj, .slice A2 n2 c2]] W fun e W' => e = .returned (.bool true) ∧ Below W.heap.size W W' := by
  have b0 := alloc_one W (.cells #[.slice A0 n0 c0, .slice A1 n1 c1, .int .i64 xi, .int .i64 xj, .slice A2 n2 c2] 28)
  have K := Blk.new W 28 #[.slice A0 n0 c0, .slice A1 n1 c1, .int .i64 xi, .int .i64 xj, .slice A2 n2 c2]
  have F0 := K.cin
  have MD := Lib.hid (made33_any (A2 := A2) (n2 := n2) (c2 := c2) (xi := xi) (xj := xj) _ (h0.below b0 (Nat.le_refl _)) hnm (h1.below b0 (Nat.le_refl _)) b0.size)
  clear h0 hnm h1
  go_enter Tryz.func3, Tryz.ntmps3
  go_wp2_with fail
  refine (MD.out).mono ?_
  unfold MadeP
  rintro e w1 (⟨rfl, b1⟩ | ⟨g, g', D, rfl, b1, hn2, TW, hfine, hdf⟩)
  · go_wp2_with fail
    refine (known33_any _).mono ?_
    rintro e w9 ⟨rfl, b9⟩
    go_wp2_with fail
    go_ret
    exact ⟨rfl, below_step (below_step b0 b1 (Nat.le_refl _)) b9 (Nat.le_refl _)⟩
  have d1 := below_step b0 b1 (Nat.le_refl _)
  have K1 := K.later b1
  have F1 := K1.cin
  clear F0 MD b0 b1 K
  by_cases hx : 4096 ≤ xi ∧ xi ≤ 8191
  · obtain ⟨hx1, hx2⟩ := hx
    clear TW hfine hdf
    go_wp2_with fail
    refine (known33_any _).mono ?_
    rintro e w9 ⟨rfl, b9⟩
    go_wp2_with fail
    go_ret
    exact ⟨rfl, below_step d1 b9 (Nat.le_refl _)⟩
  have hxo : xi < 4096 ∨ 8191 < xi := by omega
  obtain ⟨FF, FF', ⟨gv, lc, vc, la, vA, xs, vs, hd, _⟩, _, _⟩ := TW
  have hdd : ∀ e ∈ D.l, e.dflt.length ≤ 1000000 := fun e he => by have := hdf e he; omega
  have CM := Lib.hid (Command_free xi xj hxo (h2.below d1) d1.size)
  have GQ0 := fun (w2 : World) (hb : Below w1.heap.size w1 w2) => (Guard_any xi xj (hd.below hb) hdd hfine (h2.below (below_step d1 hb (Nat.le_refl _))) (below_step d1 hb (Nat.le_refl _)).size hn2).mono (R' := fun e w' => e = .returned (.int .u32 (Dc.mayS D.l false xi xj bs)) ∧ Below w2.heap.size w2 w') fun e w' h => by
    obtain ⟨⟨r, he, hr⟩, hb⟩ := h
    rw [guards_free hxo hr] at he
    exact ⟨he, hb⟩
  have MQ0 := fun (w2 : World) (hb : Below w1.heap.size w1 w2) => dMay_any xi xj (hd.below hb) (h2.below (below_step d1 hb (Nat.le_refl _))) (below_step d1 hb (Nat.le_refl _)).size
  generalize Dc.mayS D.l false xi xj bs = z at *
  have ez : (z == z) = true := by simp
  replace GQ0 := Lib.hid GQ0; replace MQ0 := Lib.hid MQ0
  clear hfine hdf hdd hd h2 hxo
  rcases (show xi < 4096 ∨ (4096 ≤ xi ∧ 8191 < xi) by omega) with hx | ⟨hx1, hx⟩
  all_goals
    go_wp2_with fail
    refine (CM.out).mono ?_
    rintro e w2 ⟨rfl, b2⟩
    have K2 := K1.later b2
    have F2 := K2.cin
    have d2 := below_step d1 b2 (Nat.le_refl _)
    have q0 := cell_regrown F2.1.1
    have q1 := cell_regrown F2.1.2.1
    have q2 := cell_regrown F2.1.2.2.1
    have q3 := cell_regrown F2.1.2.2.2.1
    have q4 := cell_regrown F2.1.2.2.2.2
    have GQ := Lib.hid (fun d os => Calls.regrown_of (GQ0.out _ (below_step b2 (below_regrown w2 d os) (Nat.le_refl _))))
    have MQ := Lib.hid (fun d os => Calls.regrown_of (MQ0.out _ (below_step b2 (below_regrown w2 d os) (Nat.le_refl _))))
    have KQ := Lib.hid (fun d os => Calls.regrown_of (known33_any (grow (redrawn w2 d) os)))
    clear F1 CM F2
    go_wp2_with fail
    refine wp_region_quiet_below (by kernel_rfl) (by kernel_rfl) ?_
    repeat (go_big_quiet_step (first | with_reducible exact GQ.out _ _ | with_reducible exact MQ.out _ _ | with_reducible exact KQ.out _ _))
    refine wpQuiet_nil ?_
    intro _ hw'
    obtain ⟨⟨dq, osq⟩, hw''⟩ := hw'
    subst hw''
    dsimp only
    go_wp2_with fail
    go_ret
    exact ⟨rfl, below_step d2 (below_regrown w2 dq osq) (Nat.le_refl _)⟩
end Go.Proofs.YtgkhpebhhkdgoaaGreat
