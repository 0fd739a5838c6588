/-
  Walk: MappingChecks.
  Conditions: none.
-/
import Derived.Test.YtoplpmfdgaabfaaJ04
import Derived.Test.YtoplpmfdgaabfaaJ15
import Derived.Test.YtoplpmfdgaabfaaJ20
namespace Go.Proofs.Ytoplpmfdgaabfaa
set_option linter.unusedVariables false
set_option linter.unusedSimpArgs false
open Go.ChangeShapes Go.WideShapes Go.ChangeAt Go.RowKit Go.Sort
section
variable {w w' : World} {base g g' : Nat} {D D' : Dc.Dic}
theorem Two.d (h : Two w base g g' D D') : ∃ (F : Nat → Prop) (gv lc vc : Nat) (la : Addr) (vA : Option Addr) (xs vs : List Value), DRt 87 w F g gv (some la) lc vA vc xs vs D := by
  obtain ⟨F, F', ⟨gv, lc, vc, la, vA, xs, vs, h1, _⟩, _⟩ := h
  exact ⟨F, gv, lc, vc, la, vA, xs, vs, h1⟩
theorem Two.r (h : Two w base g g' D D') : ∃ (F : Nat → Prop) (gv lc vc : Nat) (lA vA : Option Addr) (xs vs : List Value), DRt 67 w F g' gv lA lc vA vc xs vs D' := by
  obtain ⟨F, F', _, ⟨gv, lc, vc, la, vA, xs, vs, h1, _⟩, _⟩ := h
  exact ⟨F', gv, lc, vc, la, vA, xs, vs, h1⟩
end
set_option maxRecDepth 100000 in
set_option maxHeartbeats 4000000 in
theorem MappingChecks_walk (W : World) {A0 A1 A2 A3 : Option Addr} {n0 c0 n1 c1 n2 c2 n3 c3 : Nat} {es : List Ent.En} {vls : List Dc.Vl} {ws : List Nat} {bs : List UInt8} (h0 : REn W W.heap.size W.heap.size A0 n0 c0 es) (hnm : ∀ e ∈ es, e.name.length ≤ 9223372036854775807) (h1 : RVl W W.heap.size W.heap.size A1 n1 c1 vls)
    (h2 : RW W W.heap.size A2 n2 c2 ws) (hwl : ∀ x ∈ ws, x < 4294967296) (h3 : RB W W.heap.size A3 n3 c3 bs) :
    Calls Try.prog 4 #[.agg #[.slice A0 n0 c0, .slice A1 n1 c1, .slice A2 n2 c2, .slice A3 n3 c3]] W fun e W' => e = .returned (.bool true) ∧ Below W.heap.size W W' := by
  have b0 := alloc_one W (.cells #[.slice A0 n0 c0, .slice A1 n1 c1, .slice A2 n2 c2, .slice A3 n3 c3] 36)
  have K := Blk.new W 36 #[.slice A0 n0 c0, .slice A1 n1 c1, .slice A2 n2 c2, .slice A3 n3 c3]
  have K4 := K.four
  have MD := Lib.hid (made30_any (A2 := A2) (n2 := n2) (c2 := c2) (A3 := A3) (n3 := n3) (c3 := c3) (W.alloc (.cells #[.slice A0 n0 c0, .slice A1 n1 c1, .slice A2 n2 c2, .slice A3 n3 c3] 36)) (h0.below b0 (Nat.le_refl _)) hnm (h1.below b0 (Nat.le_refl _)) b0.size)
  go_enter Try.func4, Try.ntmps4
  go_wp2_with fail
  refine (MD.out).mono ?_
  rintro e w1 (⟨rfl, b1⟩ | ⟨g, g', D, rfl, b1, h100, h1000, TW, hfine, hd⟩)
  · clear K4
    go_wp2_with fail
    refine (known30_any _).mono ?_
    rintro e w5 ⟨rfl, b5⟩
    go_wp2_with fail
    go_ret
    exact ⟨rfl, below_step (below_step b0 b1 (Nat.le_refl _)) b5 (Nat.le_refl _)⟩
  · have d1 := below_step b0 b1 (Nat.le_refl _)
    have K1 := K.later b1
    clear K4 MD K
    have k2 := cell_regrown K1.four.1.2.2.1
    have hdd : ∀ e ∈ D.l, e.dflt.length ≤ 1000000 := fun e he => by have := hd e he; omega
    obtain ⟨F, gv, lc, vc, la, vA, xs, vs, hD⟩ := TW.d
    obtain ⟨F', gv', lc', vc', lA', vA', xs', vs', hD'⟩ := TW.r
    have CA := fun (inn : Bool) (d : Nat) (os : Array Obj) => Calls.regrown_of (MCheck_any inn (hD.below (below_regrown w1 d os)) hdd (h2.below (d1.trans ((below_regrown w1 d os).mono d1.size))) hwl (Nat.le_trans d1.size (below_regrown w1 d os).size))
    have CB := fun (inn : Bool) (d : Nat) (os : Array Obj) => Calls.regrown_of (RMCheck_any inn (hD'.below (below_regrown w1 d os)) (h2.below (d1.trans ((below_regrown w1 d os).mono d1.size))) hwl (Nat.le_trans d1.size (below_regrown w1 d os).size))
    have CS := fun (d : Nat) (os : Array Obj) => Calls.grown_same (MSize_any (grow (redrawn w1 d) os) (h2.below (d1.trans ((below_regrown w1 d os).mono d1.size))) (by omega) hwl)
    have CT := fun (d : Nat) (os : Array Obj) => Calls.grown_same (RMSize_any (grow (redrawn w1 d) os) (h2.below (d1.trans ((below_regrown w1 d os).mono d1.size))) (by omega) hwl)
    have CN := Lib.hid (fun (d : Nat) (os : Array Obj) => Calls.grown_same (MCheck_nil A2 n2 c2 true (grow (redrawn w1 d) os)))
    have CK := Lib.hid (fun (d : Nat) (os : Array Obj) => Calls.regrown_of (known30_any (grow (redrawn w1 d) os)))
    have C1 := CA true
    have C2 := CA false
    have C3 := CB true
    have C4 := CB false
    clear CA CB
    generalize Mp.checkS D.l true ws = r1 at *
    generalize Mp.checkS D.l false ws = r2 at *
    generalize (Mp.sizeS ws : Int) = sz at *
    have g1 : (r1 == r1) = true := by simp
    have g2 : (r2 == r2) = true := by simp
    have g3 : (sz == sz) = true := by simp
    replace C1 := Lib.hid C1; replace C2 := Lib.hid C2; replace C3 := Lib.hid C3; replace C4 := Lib.hid C4; replace CS := Lib.hid CS; replace CT := Lib.hid CT
    clear hD hD' hd hdd hfine TW h0 hnm h1 h2 hwl h3
    go_wp2_with fail
    refine wp_region_quiet_below (by kernel_rfl) (by kernel_rfl) ?_
    repeat (go_big_quiet_step (first | with_reducible exact C1.out _ _ | with_reducible exact C2.out _ _ | with_reducible exact C3.out _ _ | with_reducible exact C4.out _ _ | with_reducible exact CS.out _ _ | with_reducible exact CT.out _ _ | with_reducible exact CN.out _ _ | with_reducible exact CK.out _ _))
    refine wpQuiet_nil ?_
    intro _ hw'
    obtain ⟨⟨dq, osq⟩, hw''⟩ := hw'
    subst hw''
    go_wp2_with fail
    go_ret
    exact ⟨rfl, below_step d1 (below_regrown w1 dq osq) (Nat.le_refl _)⟩
end Go.Proofs.Ytoplpmfdgaabfaa
