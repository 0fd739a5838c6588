/-
  Walk: EdsTables.
  Conditions: none.
-/
import Derived.Test.YtmolmpgampmolaaJ18
import Derived.Test.YtmolmpgampmolaaJ21
import Derived.Test.YtmolmpgampmolaaJ22
import Derived.Test.YtmolmpgampmolaaJ23
namespace Go.Proofs.Ytmolmpgampmolaa
set_option linter.unusedVariables false
set_option linter.unusedSimpArgs false
open Go.RowKit Go.Sort
set_option maxRecDepth 100000 in
set_option maxHeartbeats 8000000 in
theorem EdsTables_walk (W : World) (s0 : ByteArray) (ws : s0.size ≤ maxLen) : Calls Try.prog 6 #[.string s0] W fun e w' => e = .returned (.bool true) ∧ Below W.heap.size W w' := by
  obtain ⟨s, rfl⟩ := T_of s0
  have hT := T_size s
  have KN := Lib.hid (fun w => known17_any w)
  by_cases hbig : 20000 < s.length
  · go_enter Try.func6, Try.ntmps6
    go_wp2_with fail
    refine (KN.out _).mono ?_
    rintro e w8 ⟨rfl, b8⟩
    go_wp2_with fail
    go_ret
    exact ⟨rfl, b8⟩
  have PA := EParse_any s W (by omega)
  have hbad := Ed.parse_bad s
  have hnew := Ed.parse_new s
  generalize Ed.parseS s = p at *
  obtain ⟨es, z, q⟩ := p
  dsimp only at hbad hnew
  have hs20 : s.length ≤ 20000 := by omega
  clear hbig
  by_cases hz : z = 0
  case neg =>
    obtain ⟨rfl, hq⟩ := hbad hz
    have hz2 : (z != 0) = true := by simpa using hz
    unfold ParPost at PA
    replace PA := Lib.hid PA
    have i1 : (0 : Int) ≤ (q : Int) := by omega
    have i2 : (q : Int) ≤ (s.length : Int) := by omega
    clear hz hbad hnew
    go_enter Try.func6, Try.ntmps6
    go_wp2_with fail
    refine (PA.out).mono ?_
    rintro e w1 ⟨A1, c1, rfl, _, b1⟩
    go_wp2_with fail
    refine (KN.out _).mono ?_
    rintro e w8 ⟨rfl, b8⟩
    go_wp2_with fail
    go_ret
    exact ⟨rfl, below_step b1 b8 (Nat.le_refl _)⟩
  subst hz
  have hr := (Dc.new_ok hnew).2.2
  have hlens := Ed.right_lens hr
  have hpn := Ed.print_new hnew
  have hpa := fun h8 => Ed.parse_all hnew h8
  have NW := fun (w : World) (A : Option Addr) (n c : Nat) (h : REn w w.heap.size w.heap.size A n c es) => dNew_any w h (Nat.le_refl _) (Nat.le_refl _) hlens
  have PR := fun (w : World) (A : Option Addr) (n c : Nat) (h : REn w w.heap.size w.heap.size A n c es) => Print_any w h (Nat.le_refl _) (Nat.le_refl _) hlens
  have HN := Lib.hid hnew
  have HPN := Lib.hid hpn
  have HPA := Lib.hid hpa
  replace NW := Lib.hid NW
  replace PR := Lib.hid PR
  replace PA := Lib.hid PA
  clear hbad hnew hr hlens hpn hpa
  go_enter Try.func6, Try.ntmps6
  go_wp2_with fail
  refine (PA.out).mono ?_
  rintro e w1 ⟨A1, c1, rfl, o1, b1⟩
  dsimp only at o1
  have NW1 := Lib.hid (NW.out w1 A1 es.length c1 o1.ren)
  clear PA NW
  go_wp2_with fail
  refine (NW1.out).mono ?_
  rintro e w2 (⟨_, b2, g, gv, lc, vc, la, vA, xs, vs, rfl, hd⟩ | ⟨h0, _⟩)
  case inr => exact absurd HN.out h0
  have d2 := below_step b1 b2 (Nat.le_refl _)
  have o2 := o1.below b2
  have LE := Lib.hid (dLen_any hd)
  have PR2 := Lib.hid (PR.out w2 A1 es.length c1 o2.ren)
  clear NW1 PR hd o1 b1 b2
  go_wp2_with fail
  refine (LE.out).mono ?_
  rintro e _ ⟨rfl, rfl⟩
  clear LE
  rcases HPN.out with hp | ⟨h8, hp⟩
  · unfold PrtPost at PR2
    rw [hp] at PR2
    dsimp only at PR2
    clear hp
    go_wp2_with fail
    refine (PR2.out).mono ?_
    rintro e w3 ⟨rfl, b3⟩
    have d3 := below_step d2 b3 (Nat.le_refl _)
    go_wp2_with fail
    refine (KN.out _).mono ?_
    rintro e w8 ⟨rfl, b8⟩
    go_wp2_with fail
    go_ret
    exact ⟨rfl, below_step d3 b8 (Nat.le_refl _)⟩
  · unfold PrtPost at PR2
    rw [hp] at PR2
    dsimp only at PR2
    have PB := fun w => EParse_any (Ed.allT es) w (by omega)
    rw [HPA.out h8] at PB
    generalize Ed.allT es = L at *
    replace PB := Lib.hid PB
    clear hp h8
    go_wp2_with fail
    refine (PR2.out).mono ?_
    rintro e w3 ⟨rfl, b3⟩
    have d3 := below_step d2 b3 (Nat.le_refl _)
    have o3 := o2.below b3
    clear PR2 b3 o2
    go_wp2_with fail
    refine (PB.out _).mono ?_
    rintro e w4 ⟨A4, c4, rfl, o4, b4⟩
    dsimp only at o4
    have d4 := below_step d3 b4 (Nat.le_refl _)
    have AL := Lib.hid (RAll15_eq w4 (o3.below b4).ren o4.ren (Nat.le_refl _) (Nat.le_refl _) (Nat.le_refl _) (Nat.le_refl _))
    clear PB o3 o4 b4
    go_wp2_with fail
    refine (AL.out).mono ?_
    rintro e w5 ⟨rfl, b5⟩
    have d5 := below_step d4 b5 (Nat.le_refl _)
    go_wp2_with fail
    refine (KN.out _).mono ?_
    rintro e w8 ⟨rfl, b8⟩
    go_wp2_with fail
    go_ret
    exact ⟨rfl, below_step d5 b8 (Nat.le_refl _)⟩
end Go.Proofs.Ytmolmpgampmolaa
