/-
  Walks: types.quote, unquote, the reference's text.
  Conditions: none.
-/
import Derived.Test.YtnppihlalhaldaaTypPure
import Derived.Test.YtnppihlalhaldaaText
import Derived.Test.YtnppihlalhaldaaBlk
namespace Go.Proofs.Ytnppihlalhaldaa
set_option linter.unusedVariables false
set_option linter.unusedSimpArgs false
open Go.RowKit
theorem esc_append (a b : List UInt8) : Ty.esc (a ++ b) = Ty.esc a ++ Ty.esc b := by unfold Ty.esc; exact List.flatMap_append
theorem esc_one (x : UInt8) : Ty.esc [x] = if Ty.mark x = true then [92, x] else [x] := by simp [Ty.esc]
theorem esc_snoc {l : List UInt8} {k : Nat} (hk : k < l.length) : Ty.esc (l.take (k + 1)) = Ty.esc (l.take k) ++ (if Ty.mark (l.getD k 0) = true then [92, l.getD k 0] else [l.getD k 0]) := by
  rw [List.take_succ_eq_append_getElem hk, esc_append, esc_one, show l.getD k 0 = l[k] by simp [List.getD, hk]]
theorem esc_len : ∀ (l : List UInt8), (Ty.esc l).length ≤ 2 * l.length
  | [] => by simp [Ty.esc]
  | c :: l => by
    have := esc_len l
    rw [show c :: l = [c] ++ l from rfl, esc_append, esc_one, List.length_append, List.length_append]
    generalize (Ty.esc l).length = m at *
    split <;> simp <;> omega
theorem quo_len (l : List UInt8) : (Ty.quo l).length ≤ 2 * l.length + 2 := by
  have := esc_len l
  unfold Ty.quo
  simp
  omega
end Go.Proofs.Ytnppihlalhaldaa
