/-
  Texts joined: DicRead.
  Conditions: none.
-/
import Derived.Test.YtmolmpgampmolaaJ10
import Derived.Test.YtmolmpgampmolaaJ11
import Derived.Test.YtmolmpgampmolaaJ13
import Derived.Deep.QuietTactic
import Derived.BigQuiet
/-
  Walks: what is read of a dictionary, of layer 15.
  Conditions: none.
-/
namespace Go.Proofs.Ytmolmpgampmolaa
set_option linter.unusedVariables false
set_option linter.unusedSimpArgs false
open Go.RowKit
set_option maxRecDepth 100000 in
set_option maxHeartbeats 4000000 in
theorem dthere_any {F : Nat → Prop} {w : World} {g gv lc vc : Nat} {la : Addr} {vA : Option Addr} {xs vs : List Value} {D : Dc.Dic} (h : DRt 71 w F g gv (some la) lc vA vc xs vs D) : Calls Try.prog 32 #[.pointer (some ⟨g, 0, none⟩)] w fun e w' => e = .returned (.bool true) ∧ w = w' := by
  obtain ⟨t0, t1⟩ := h.two
  go_enter Try.func32, Try.ntmps32
  go_wp2_with fail
  go_ret
  exact ⟨rfl, rfl⟩
set_option maxRecDepth 100000 in
set_option maxHeartbeats 4000000 in
theorem dLen_any {F : Nat → Prop} {w : World} {g gv lc vc : Nat} {la : Addr} {vA : Option Addr} {xs vs : List Value} {D : Dc.Dic} (h : DRt 71 w F g gv (some la) lc vA vc xs vs D) : Calls Try.prog 16 #[.pointer (some ⟨g, 0, none⟩)] w fun e w' => e = .returned (.int .i64 (D.l.length : Int)) ∧ w = w' := by
  obtain ⟨t0, t1⟩ := h.two
  have T := Lib.hid (dthere_any h)
  go_enter Try.func16, Try.ntmps16
  go_wp2_with fail
  refine (T.out).mono ?_
  rintro e w ⟨rfl, rfl⟩
  go_wp2_with fail
  go_ret
  exact ⟨rfl, rfl⟩
def nearB (l : List Ent.En) (z x : Int) : Bool := decide (0 ≤ z ∧ z < (l.length : Int)) && ((l.getD z.toNat Dc.en0).index == x)
end Go.Proofs.Ytmolmpgampmolaa
