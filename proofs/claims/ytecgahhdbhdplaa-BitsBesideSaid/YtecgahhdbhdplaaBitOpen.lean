/-
  An argument that is a place of bits.
  Conditions: none.
-/
import Derived.Test.YtecgahhdbhdplaaBitMem
import Derived.Test.YtecgahhdbhdplaaFrame
namespace Go.Proofs.Ytecgahhdbhdplaa
set_option linter.unusedVariables false
set_option linter.unusedSimpArgs false
open Go.ChangeShapes Go.WideShapes Go.ChangeAt Go.RowKit
section
variable {H : Type} {enc : TypeId × Value → H} {w : World} {spare : Nat → Bool} {held : Bool}
theorem open_place {r : Reach} {b0 : Nat} {v : Value} {d : DataW H} {p : List MemPlace} (hv : Value.okWide Try.prog w r b0 25 v) (h : DataW.Trod enc Try.prog w 0 spare held 25 v d p) :
    ∃ (A : Option Addr) (n c : Nat) (l : List UInt8) (i m : Int) (u : Nat), v = .agg #[.slice A n c, .int .i64 i, .int .i64 m, .int .u64 (u : Int)] ∧ RB w w.heap.size A n c l ∧ (Lit.int .i64 i).wf = true ∧ (Lit.int .i64 m).wf = true ∧ u < 18446744073709551616 := by
  obtain ⟨cs, rfl, hsz⟩ := okWide_struct Try.underlying25 hv
  obtain ⟨fuel, hf⟩ := h
  have h3 : cs.toList.length = 4 := trod_len Try.underlying25 (by simpa [Value.cells] using hf) (by kernel_rfl)
  have hf' : DataW.trod enc Try.prog w 0 spare held fuel 25 cs.toList = some (d, p) := by simpa [Value.cells] using hf
  obtain ⟨l, hl⟩ : ∃ l, l = cs.toList := ⟨_, rfl⟩
  rw [← hl] at h3 hf'
  match l, h3 with
  | [a, b, c, e], _ =>
    obtain ⟨_, _, t0⟩ := trod_one Try.underlying25 hf' 0 22 0 a rfl (by kernel_rfl) rfl
    obtain ⟨_, _, t1⟩ := trod_one Try.underlying25 hf' 1 3 1 b rfl (by kernel_rfl) rfl
    obtain ⟨_, _, t2⟩ := trod_one Try.underlying25 hf' 2 3 2 c rfl (by kernel_rfl) rfl
    obtain ⟨_, _, t3⟩ := trod_one Try.underlying25 hf' 3 23 3 e rfl (by kernel_rfl) rfl
    obtain ⟨A, n, c', bs, rfl, hr⟩ := cell_bytes Try.underlying22 Try.underlying5 (by kernel_rfl) t0
    obtain ⟨i, rfl, w1⟩ := cell_int Try.underlying3 t1
    obtain ⟨m, rfl, w2⟩ := cell_int Try.underlying3 t2
    obtain ⟨u, rfl, w3⟩ := cell_int Try.underlying23 t3
    obtain ⟨u0, u1⟩ := bounds_u64 w3
    obtain ⟨U, rfl⟩ := Int.eq_ofNat_of_zero_le u0
    refine ⟨A, n, c', bs, i, m, U, ?_, hr, w1, w2, by omega⟩
    rw [← Array.toArray_toList (xs := cs), ← hl]
end
end Go.Proofs.Ytecgahhdbhdplaa
