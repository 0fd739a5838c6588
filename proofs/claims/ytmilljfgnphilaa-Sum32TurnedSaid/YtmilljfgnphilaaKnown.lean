/-
  Walks: what must come of fixed calls, layer 2.
  Conditions: none.
-/
import Derived.Test.YtmilljfgnphilaaSum32S
namespace Go.Proofs.Ytmilljfgnphilaa
open Go.RowKit
theorem kn1 : openS [0, 0, 0, 0] = ([], 0) := by decide +kernel
theorem kn2 : openS [0, 0, 0, 1] = ([], 5) := by decide +kernel
theorem kn3 : Crc.on 0 [49, 50, 51, 52, 53, 54, 55, 56, 57] = 3421780262 := by decide +kernel
theorem below_lit {w w1 : World} (o : Obj) (h : Below (w.heap.size + 1) (w.alloc o) w1) : Below w.heap.size w w1 := ((Below.refl _ w).alloc (Nat.le_refl _) o).trans (h.mono (by omega))
set_option maxHeartbeats 1000000 in
theorem known_any (w : World) : Calls Try.prog 8 #[] w fun e w' => e = .returned (.bool true) ∧ Below w.heap.size w w' := by
  have kc := fun (w : World) (C : Array Value) (n c : Nat) => Lib.run_convert_bytes_const (P := Try.prog) w 23 5 C n c Try.underlying23 Try.underlying5
  go_enter Try.func8, Try.ntmps8
  go_wp2_with fail
  refine (Open_any _ (RB.lit _ _ [0, 0, 0, 0] rfl rfl (by decide)) (by simp) (by decide)).mono ?_
  rintro e w1 ⟨A1, c1, he, h1, hb1⟩
  rw [kn1] at he h1
  subst he
  have b1 := below_lit _ (by simpa using hb1)
  clear h1 hb1
  go_wp2_with fail
  refine (Open_any _ (RB.lit _ _ [0, 0, 0, 1] rfl rfl (by decide)) (by simp) (by decide)).mono ?_
  rintro e w2 ⟨A2, c2, he, h2, hb2⟩
  rw [kn2] at he h2
  subst he
  have b2 := below_step b1 (below_lit _ (by simpa using hb2)) (Nat.le_refl _)
  clear h2 hb2
  go_wp2_with fail
  refine (Sum_any _ (RB.litm _ _ [49, 50, 51, 52, 53, 54, 55, 56, 57] _ rfl rfl (by decide)) (by simp)).mono ?_
  rintro e w3 ⟨he, hb3⟩
  rw [kn3] at he
  subst he
  have b3 := below_step b2 (below_lit _ (by simpa using hb3)) (Nat.le_refl _)
  clear hb3
  go_wp2_with fail
  refine (Seal_any _ (RB.none_ (B := 0)) (by omega) (by decide)).mono ?_
  rintro e w4 ⟨A4, c4, rfl, h4, hb4⟩
  have b4 := below_step b3 hb4 (Nat.le_refl _)
  go_wp2_with fail
  go_ret
  exact ⟨rfl, b4⟩
end Go.Proofs.Ytmilljfgnphilaa
