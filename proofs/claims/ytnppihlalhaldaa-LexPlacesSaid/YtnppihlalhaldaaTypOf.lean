/-
  Walks: what is known of a type.
  Conditions: none.
-/
import Derived.Test.YtnppihlalhaldaaTyp
namespace Go.Proofs.Ytnppihlalhaldaa
set_option linter.unusedVariables false
set_option linter.unusedSimpArgs false
open Go.RowKit
set_option maxRecDepth 100000 in
set_option maxHeartbeats 4000000 in
theorem of_any (t : Int) (w : World) : Calls Try.prog 57 #[.int .i64 t] w fun e w' => e = .returned (.agg #[.string (T (Ty.kd t).name), .int .i64 ((Ty.kd t).size : Int), .int .i64 ((Ty.kd t).bits : Int), .bool (Ty.kd t).sgn]) ∧ Below w.heap.size w w' := by
  by_cases h : 0 ≤ t ∧ t < 32
  · obtain ⟨h1, h2⟩ := h
    obtain ⟨k, rfl⟩ : ∃ k : Nat, t = (k : Int) := ⟨t.toNat, by omega⟩
    have hr := run_kind k (by omega)
    unfold kc at hr
    generalize (Ty.kd (k : Int)).name = nm at *
    generalize (Ty.kd (k : Int)).size = sz at *
    generalize (Ty.kd (k : Int)).bits = bt at *
    generalize (Ty.kd (k : Int)).sgn = sg at *
    generalize hkc : kcells = K at *
    have C := Lib.hid (fun w => kinds_any w)
    rw [hkc] at C
    clear hkc
    go_enter Try.func57, Try.ntmps57
    go_wp2_with fail
    refine (C.out _).mono ?_
    rintro e w1 ⟨rfl, b1⟩
    have KB := Blk.made b1
    have F := KB.four
    have hlt := KB.lt
    go_wp2_with fail
    have K4 := KB.store4 (.string (T nm)) (.int .i64 (sz : Int)) (.int .i64 (bt : Int)) (.bool sg)
    have F4 := K4.four.1
    exact bodyPost_ret (v := .agg #[.string (T nm), .int .i64 (sz : Int), .int .i64 (bt : Int), .bool sg]) (by simp [results, Try.results57, go_sem, F4]) rfl ⟨rfl, ((((below_step (alloc_one _ _) b1 (Nat.le_refl _)).setCell (p := ⟨w.heap.size, 0, none⟩) (Nat.le_refl _) _).setCell (p := ⟨w.heap.size, 1, none⟩) (Nat.le_refl _) _).setCell (p := ⟨w.heap.size, 2, none⟩) (Nat.le_refl _) _).setCell (p := ⟨w.heap.size, 3, none⟩) (Nat.le_refl _) _⟩
  · have e : Ty.kd t = Ty.kd0 := Ty.kd_none (by
      intro hm
      unfold Ty.nums at hm
      simp only [List.mem_cons, List.not_mem_nil, or_false] at hm
      omega)
    rw [e]
    rcases (show t < 0 ∨ (0 ≤ t ∧ 32 ≤ t) by omega) with h | ⟨h1, h2⟩
    all_goals
      clear e
      go_enter Try.func57, Try.ntmps57
      go_wp2_with fail
      exact bodyPost_ret (v := .agg #[.string (T []), .int .i64 0, .int .i64 0, .bool false]) (by simp [results, Try.results57, go_sem]; rfl) rfl ⟨rfl, alloc_one _ _⟩
theorem TSize_any (t : Int) (w : World) : Calls Try.prog 69 #[.int .i64 t] w fun e w' => e = .returned (.int .i64 ((Ty.kd t).size : Int)) ∧ Below w.heap.size w w' := by
  have C := Lib.hid (of_any t w)
  generalize (Ty.kd t).name = nm at *
  generalize (Ty.kd t).size = sz at *
  generalize (Ty.kd t).bits = bt at *
  generalize (Ty.kd t).sgn = sg at *
  have hfd : ∀ w : World, (Instr.field 71 (.agg #[.string (T nm), .int .i64 (sz : Int), .int .i64 (bt : Int), .bool sg]) 1).run Try.prog w = .ok (.int .i64 (sz : Int)) w := fun _ => by kernel_rfl
  go_enter Try.func69, Try.ntmps69
  go_wp2_with fail
  refine (C.out).mono ?_
  rintro e w1 ⟨rfl, b1⟩
  go_wp2_with fail
  go_ret
  exact ⟨rfl, b1⟩
theorem TBits_any (t : Int) (w : World) : Calls Try.prog 52 #[.int .i64 t] w fun e w' => e = .returned (.int .i64 ((Ty.kd t).bits : Int)) ∧ Below w.heap.size w w' := by
  have C := Lib.hid (of_any t w)
  generalize (Ty.kd t).name = nm at *
  generalize (Ty.kd t).size = sz at *
  generalize (Ty.kd t).bits = bt at *
  generalize (Ty.kd t).sgn = sg at *
  have hfd : ∀ w : World, (Instr.field 71 (.agg #[.string (T nm), .int .i64 (sz : Int), .int .i64 (bt : Int), .bool sg]) 2).run Try.prog w = .ok (.int .i64 (bt : Int)) w := fun _ => by kernel_rfl
  go_enter Try.func52, Try.ntmps52
  go_wp2_with fail
  refine (C.out).mono ?_
  rintro e w1 ⟨rfl, b1⟩
  go_wp2_with fail
  go_ret
  exact ⟨rfl, b1⟩
theorem TSigned_any (t : Int) (w : World) : Calls Try.prog 67 #[.int .i64 t] w fun e w' => e = .returned (.bool (Ty.kd t).sgn) ∧ Below w.heap.size w w' := by
  have C := Lib.hid (of_any t w)
  generalize (Ty.kd t).name = nm at *
  generalize (Ty.kd t).size = sz at *
  generalize (Ty.kd t).bits = bt at *
  generalize (Ty.kd t).sgn = sg at *
  have hfd : ∀ w : World, (Instr.field 71 (.agg #[.string (T nm), .int .i64 (sz : Int), .int .i64 (bt : Int), .bool sg]) 3).run Try.prog w = .ok (.bool sg) w := fun _ => by kernel_rfl
  go_enter Try.func67, Try.ntmps67
  go_wp2_with fail
  refine (C.out).mono ?_
  rintro e w1 ⟨rfl, b1⟩
  go_wp2_with fail
  go_ret
  exact ⟨rfl, b1⟩
theorem kd_named (t : Int) : (Ty.kd t).name ≠ [] ∨ Ty.kd t = Ty.kd0 := by
  rcases Ty.kd_cases t with h | ⟨_, h⟩
  · left
    rcases h with rfl | rfl | rfl | rfl | rfl | rfl | rfl | rfl | rfl | rfl | rfl <;> decide
  · exact .inr h
/-- Is the type known? -/
def knownB (t : Int) : Bool := !(Ty.kd t).name.isEmpty
set_option maxHeartbeats 1000000 in
theorem TKnown_any (t : Int) (w : World) : Calls Try.prog 51 #[.int .i64 t] w fun e w' => e = .returned (.bool (knownB t)) ∧ Below w.heap.size w w' := by
  have C := Lib.hid (of_any t w)
  unfold knownB
  rcases kd_named t with h | h
  · generalize (Ty.kd t).name = nm at *
    generalize (Ty.kd t).size = sz at *
    generalize (Ty.kd t).bits = bt at *
    generalize (Ty.kd t).sgn = sg at *
    have h1 : nm.isEmpty = false := by simpa using h
    rw [h1]
    have h2 := T_toList nm
    have h3 : T nm ≠ T [] := T_ne h
    clear h
    go_enter Try.func51, Try.ntmps51
    go_wp2_with fail
    refine (C.out).mono ?_
    rintro e w1 ⟨rfl, b1⟩
    go_wp2_with fail
    go_ret
    exact ⟨rfl, b1⟩
  · rw [h] at C ⊢
    unfold Ty.kd0 at C ⊢
    dsimp only at C ⊢
    rw [show T [] = (⟨#[]⟩ : ByteArray) from rfl] at C
    go_enter Try.func51, Try.ntmps51
    go_wp2_with fail
    refine (C.out).mono ?_
    rintro e w1 ⟨rfl, b1⟩
    go_wp2_with fail
    go_ret
    exact ⟨rfl, b1⟩
end Go.Proofs.Ytnppihlalhaldaa
