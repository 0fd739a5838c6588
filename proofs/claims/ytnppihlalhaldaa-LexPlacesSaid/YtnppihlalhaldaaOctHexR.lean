/-
  Walks: the reference's Hex.
  Conditions: none.
-/
import Derived.Test.YtnppihlalhaldaaOctHex
import Derived.Laws.Concat
import Derived.StillTailTactics
namespace Go.Proofs.Ytnppihlalhaldaa
set_option linter.unusedVariables false
set_option linter.unusedSimpArgs false
open Go.RowKit
theorem hexd_cut : ∀ j : Fin 16, ((⟨#[48, 49, 50, 51, 52, 53, 54, 55, 56, 57, 97, 98, 99, 100, 101, 102]⟩ : ByteArray).extract j.val (j.val + 1)).data.toList = [Oct.dig j.val] := by decide
theorem run_hexd_cut (k1 k2 : IntKind) (z1 z2 : Int) (k : Nat) (h1 : z1 = (k : Int)) (h2 : z2 = (k : Int) + 1) (hk : k < 16) (w : World) :
    (Instr.slice 9 (.string ⟨#[48, 49, 50, 51, 52, 53, 54, 55, 56, 57, 97, 98, 99, 100, 101, 102]⟩) (some (.int k1 z1)) (some (.int k2 z2)) none).run Try.prog w = .ok (.string ⟨#[Oct.dig k]⟩) w := by
  subst h1 h2
  have e := hexd_cut ⟨k, hk⟩
  have e3 : (⟨#[48, 49, 50, 51, 52, 53, 54, 55, 56, 57, 97, 98, 99, 100, 101, 102]⟩ : ByteArray).extract k (k + 1) = ⟨#[Oct.dig k]⟩ := by
    apply ByteArray.ext
    rw [← Array.toList_inj]
    exact e
  have hs : (⟨#[48, 49, 50, 51, 52, 53, 54, 55, 56, 57, 97, 98, 99, 100, 101, 102]⟩ : ByteArray).size = 16 := rfl
  have b1 : ∀ code, (Instr.sliceBound (.int k2 ((k : Int) + 1)) 16 code).run Try.prog w = .ok (k + 1) w := fun code => by
    rw [run_sliceBound w k2 _ 16 code (by omega) (by omega)]; congr 1
  have b2 : ∀ code, (Instr.sliceBound (.int k1 (k : Int)) (k + 1) code).run Try.prog w = .ok k w := fun code => by
    rw [run_sliceBound w k1 _ _ code (by omega) (by omega)]; congr 1
  simp [Instr.slice, run_underlying Try.underlying9, Instr.sliceBounds, hs, b1, b2, e3, go_sem]
theorem bytes_snoc (l : List UInt8) (x : UInt8) : ((⟨l.toArray⟩ : ByteArray) ++ (⟨#[x]⟩ : ByteArray)) = ⟨(l ++ [x]).toArray⟩ := by
  apply ByteArray.ext
  simp
end Go.Proofs.Ytnppihlalhaldaa
