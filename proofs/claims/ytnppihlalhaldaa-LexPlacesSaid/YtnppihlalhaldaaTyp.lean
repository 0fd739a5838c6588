/-
  Walks: types.kinds, of, and what is known of a type.
  Conditions: none.
-/
import Derived.Test.YtnppihlalhaldaaTypPure
import Derived.Test.YtnppihlalhaldaaText
import Derived.Test.YtnppihlalhaldaaBlk
import Derived.Laws.Tables
import Derived.KernelRfl
namespace Go.Proofs.Ytnppihlalhaldaa
set_option linter.unusedVariables false
set_option linter.unusedSimpArgs false
open Go.RowKit
/-- The cells of what is known of a type. -/
def kc (t : Int) : Array Value := #[.string (T (Ty.kd t).name), .int .i64 ((Ty.kd t).size : Int), .int .i64 ((Ty.kd t).bits : Int), .bool (Ty.kd t).sgn]
def kcells : Array Value := ((List.range 32).flatMap fun (t : Nat) => (kc (t : Int)).toList).toArray
theorem run_kind : ∀ (k : Nat) (_ : k < 32) (w : World), (Instr.index 80 (.agg kcells) (.int .i64 (k : Int))).run Try.prog w = .ok (.agg (kc (k : Int))) w
  | 0, _ => fun _ => by kernel_rfl
  | 1, _ => fun _ => by kernel_rfl
  | 2, _ => fun _ => by kernel_rfl
  | 3, _ => fun _ => by kernel_rfl
  | 4, _ => fun _ => by kernel_rfl
  | 5, _ => fun _ => by kernel_rfl
  | 6, _ => fun _ => by kernel_rfl
  | 7, _ => fun _ => by kernel_rfl
  | 8, _ => fun _ => by kernel_rfl
  | 9, _ => fun _ => by kernel_rfl
  | 10, _ => fun _ => by kernel_rfl
  | 11, _ => fun _ => by kernel_rfl
  | 12, _ => fun _ => by kernel_rfl
  | 13, _ => fun _ => by kernel_rfl
  | 14, _ => fun _ => by kernel_rfl
  | 15, _ => fun _ => by kernel_rfl
  | 16, _ => fun _ => by kernel_rfl
  | 17, _ => fun _ => by kernel_rfl
  | 18, _ => fun _ => by kernel_rfl
  | 19, _ => fun _ => by kernel_rfl
  | 20, _ => fun _ => by kernel_rfl
  | 21, _ => fun _ => by kernel_rfl
  | 22, _ => fun _ => by kernel_rfl
  | 23, _ => fun _ => by kernel_rfl
  | 24, _ => fun _ => by kernel_rfl
  | 25, _ => fun _ => by kernel_rfl
  | 26, _ => fun _ => by kernel_rfl
  | 27, _ => fun _ => by kernel_rfl
  | 28, _ => fun _ => by kernel_rfl
  | 29, _ => fun _ => by kernel_rfl
  | 30, _ => fun _ => by kernel_rfl
  | 31, _ => fun _ => by kernel_rfl
  | k + 32, h => absurd h (by omega)
theorem below_setRow {B : Nat} {a w : World} (h : Below B a w) {g : Nat} (hg : B ≤ g) (cs : Array Value) : Below B a (w.setRow g cs) :=
  ⟨h.os, h.tape, h.output, by rw [size_setRow]; exact h.size, fun b hb => (setRow_other w g b cs (by omega)).trans (h.block b hb)⟩
set_option maxRecDepth 100000 in
set_option maxHeartbeats 4000000 in
theorem kinds_any (w : World) : Calls Try.prog 74 #[] w fun e w' => e = .returned (.agg kcells) ∧ Below w.heap.size w w' := by
  go_enter Try.func74, Try.ntmps74
  go_wp2_with (refine wpList_store_row rfl 80 (.tmp 0) (.tmp 12) rfl w.heap.size kcells (by kernel_rfl) (by kernel_rfl) 80 _ (heap_alloc_new w _) (by kernel_rfl) (by kernel_rfl) (by kernel_rfl) ?_)
  exact bodyPost_ret (v := .agg kcells) (results_cell_row Try.results74 _ _ w.heap.size 80 kcells (0, 0) _ (by kernel_rfl) (setRow_heap _ _ _ _ _ _ (heap_alloc_new w _)) Try.underlying80 rfl (by kernel_rfl)) rfl ⟨rfl, below_setRow (alloc_one w _) (Nat.le_refl _) _⟩
end Go.Proofs.Ytnppihlalhaldaa
