/-
  Walk: EdsBack.
  Conditions: none.
-/
import Derived.Test.YtmolmpgampmolaaJ18
import Derived.Test.YtmolmpgampmolaaJ21
import Derived.Test.YtmolmpgampmolaaJ22
namespace Go.Proofs.Ytmolmpgampmolaa
set_option linter.unusedVariables false
set_option linter.unusedSimpArgs false
open Go.RowKit Go.Sort
set_option maxRecDepth 100000 in
set_option maxHeartbeats 8000000 in
theorem EdsBack_walk (W : World) {es : List Ent.En} {A : Option Addr} {n c : Nat} (wr : REn W W.heap.size W.heap.size A n c es) (wn : ∀ e ∈ es, e.name.length ≤ 9223372036854775807) : Calls Try.prog 5 #[.slice A n c] W fun e w' => e = .returned (.bool true) ∧ Below W.heap.size W w' := by
  have LT := Lib.hid (Light15_any W wr wn)
  have KN := Lib.hid (fun w => known17_any w)
  have WR := Lib.hid wr
  clear wr wn
  go_enter Try.func5, Try.ntmps5
  go_wp2_with fail
  refine (LT.out).mono ?_
  rintro e w1 ⟨b, rfl, rfl, hb⟩
  clear LT
  cases b
  case false =>
    clear hb
    go_wp2_with fail
    refine (KN.out _).mono ?_
    rintro e w8 ⟨rfl, b8⟩
    go_wp2_with fail
    go_ret
    exact ⟨rfl, b8⟩
  obtain ⟨_, hlen⟩ := hb rfl
  have PR := Print_any W WR.out (Nat.le_refl _) (Nat.le_refl _) (fun e he => by have := hlen e he; omega)
  clear hb hlen
  by_cases hz : (Ed.printS es).2.1 = 0
  case neg =>
    have hs := Ed.print_bad hz
    have hz2 : ((Ed.printS es).2.1 != 0) = true := by simpa using hz
    unfold PrtPost at PR
    rw [hs, show T [] = (⟨#[]⟩ : ByteArray) from rfl] at PR
    generalize (Ed.printS es).2.1 = z at *
    generalize (Ed.printS es).2.2 = q at *
    replace PR := Lib.hid PR
    clear hs hz
    go_wp2_with fail
    refine (PR.out).mono ?_
    rintro e w1 ⟨rfl, b1⟩
    go_wp2_with fail
    refine (KN.out _).mono ?_
    rintro e w8 ⟨rfl, b8⟩
    go_wp2_with fail
    go_ret
    exact ⟨rfl, below_step b1 b8 (Nat.le_refl _)⟩
  obtain ⟨hnew, h8, hp⟩ := Ed.print_ok hz
  have hpa := Ed.parse_all hnew h8
  unfold PrtPost at PR
  rw [hp] at PR
  dsimp only at PR
  have PA := fun w => EParse_any (Ed.allT es) w (by omega)
  rw [hpa] at PA
  generalize Ed.allT es = L at *
  replace PR := Lib.hid PR
  replace PA := Lib.hid PA
  clear hz hnew h8 hp hpa
  go_wp2_with fail
  refine (PR.out).mono ?_
  rintro e w1 ⟨rfl, b1⟩
  clear PR
  go_wp2_with fail
  refine (PA.out _).mono ?_
  rintro e w2 ⟨A2, c2, rfl, o2, b2⟩
  dsimp only at o2
  have d2 := below_step b1 b2 (Nat.le_refl _)
  have hln := WR.out.len
  subst hln
  have AL := Lib.hid (RAll15_eq w2 (WR.out.below d2 (Nat.le_refl _)) (o2.ren) d2.size d2.size (Nat.le_refl _) (Nat.le_refl _))
  clear PA b1 b2 o2
  go_wp2_with fail
  refine (AL.out).mono ?_
  rintro e w3 ⟨rfl, b3⟩
  have d3 := below_step d2 b3 (Nat.le_refl _)
  go_wp2_with fail
  refine (KN.out _).mono ?_
  rintro e w8 ⟨rfl, b8⟩
  go_wp2_with fail
  go_ret
  exact ⟨rfl, below_step d3 b8 (Nat.le_refl _)⟩
end Go.Proofs.Ytmolmpgampmolaa
