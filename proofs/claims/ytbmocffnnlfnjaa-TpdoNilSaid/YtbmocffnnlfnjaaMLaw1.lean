/-
  Walk: TpdoNil.
  Conditions: none.
-/
import Derived.Test.YtbmocffnnlfnjaaJ04
import Derived.Test.YtbmocffnnlfnjaaJ16
namespace Go.Proofs.Ytbmocffnnlfnjaa
set_option linter.unusedVariables false
set_option linter.unusedSimpArgs false
open Go.ChangeShapes Go.WideShapes Go.ChangeAt Go.RowKit Go.Sort
set_option maxRecDepth 100000 in
set_option maxHeartbeats 4000000 in
theorem TpdoNil_walk (W : World) {v1 : Nat} {t inh ev : Int} {A1 : Option Addr} {n1 c1 : Nat} {ws : List Nat} (hv : v1 < 4294967296) (h1 : RW W W.heap.size A1 n1 c1 ws) (hwl : ∀ x ∈ ws, x < 4294967296) (wt : (Lit.int .i64 t).wf = true) (wi : (Lit.int .i64 inh).wf = true) (we : (Lit.int .i64 ev).wf = true) :
    Calls Try.prog 4 #[.agg #[.int .u32 (v1 : Int), .int .i64 t, .int .i64 inh, .int .i64 ev, .slice A1 n1 c1]] W fun e W' => e = .returned (.bool true) ∧ Below W.heap.size W W' := by
  have b0 := alloc_one W (.cells #[.int .u32 (v1 : Int), .int .i64 t, .int .i64 inh, .int .i64 ev, .slice A1 n1 c1] 26)
  have KC := Blk.new W 26 #[.int .u32 (v1 : Int), .int .i64 t, .int .i64 inh, .int .i64 ev, .slice A1 n1 c1]
  have FC := KC.fiv
  by_cases h100 : 100 < n1
  · go_enter Try.func4, Try.ntmps4
    go_wp2_with fail
    refine (known32_any _).mono ?_
    rintro e w2 ⟨rfl, b2⟩
    go_wp2_with fail
    go_ret
    exact ⟨rfl, below_step b0 b2 (Nat.le_refl _)⟩
  · have GV := Lib.hid (fun w => given32_any v1 t inh ev A1 n1 c1 w)
    have NN := Lib.hid (fun w => TNew_nil (.int .u32 (v1 : Int)) (.int .i64 t) (.int .i64 inh) (.int .i64 ev) (.slice A1 n1 c1) w)
    go_enter Try.func4, Try.ntmps4
    go_wp2_with fail
    refine (GV.out _).mono ?_
    rintro e w1 ⟨rfl, b1⟩
    go_wp2_with fail
    refine (NN.out _).mono ?_
    rintro e w2 ⟨rfl, b2⟩
    have b02 := below_step (below_step b0 b1 (Nat.le_refl _)) b2 (Nat.le_refl _)
    have b3 := alloc_one w2 (.cells #[.pointer none, .int .u32 0, .int .i64 0, .int .i64 0, .int .i64 0, .slice none 0 0, .int .i64 0, .bool false, .int .i64 0, .int .i64 0, .int .i64 0] 46)
    have KZ := Blk.new w2 46 #[.pointer none, .int .u32 0, .int .i64 0, .int .i64 0, .int .i64 0, .slice none 0 0, .int .i64 0, .bool false, .int .i64 0, .int .i64 0, .int .i64 0]
    have FZ0 := KZ.cell 0
    have FZ6 := KZ.cell 6
    have d3 := below_step b02 b3 (Nat.le_refl _)
    have R1 := Lib.hid (fun w => TRest_nil w)
    have T1 := Lib.hid (fun w => TTrigger_nil w)
    have T2 := Lib.hid (fun w => TTick_nil w)
    have T3 := Lib.hid (fun w => TPulse_nil w)
    have T4 := Lib.hid (fun w => THas_nil (.int .i64 0) (.int .i64 0) w)
    have T5 := Lib.hid (fun w => TId_nil w)
    have Z1 := Lib.hid (TTrigger_zero FZ0)
    have Z2 := Lib.hid (TTick_zero FZ0)
    have Z3 := Lib.hid (TPulse_zero FZ0)
    have Z5 := Lib.hid (TId_zero FZ6)
    clear FC KC GV NN b1 b2
    go_wp2_with fail
    refine (R1.out _).mono ?_
    rintro e _ ⟨rfl, rfl⟩
    go_wp2_with fail
    refine (T1.out _).mono ?_
    rintro e _ ⟨rfl, rfl⟩
    go_wp2_with fail
    refine (T2.out _).mono ?_
    rintro e _ ⟨rfl, rfl⟩
    go_wp2_with fail
    refine (T3.out _).mono ?_
    rintro e _ ⟨rfl, rfl⟩
    go_wp2_with fail
    refine (Z1.out).mono ?_
    rintro e _ ⟨rfl, rfl⟩
    go_wp2_with fail
    refine (Z2.out).mono ?_
    rintro e _ ⟨rfl, rfl⟩
    go_wp2_with fail
    refine (Z3.out).mono ?_
    rintro e _ ⟨rfl, rfl⟩
    go_wp2_with fail
    refine (T4.out _).mono ?_
    rintro e _ ⟨rfl, rfl⟩
    go_wp2_with fail
    refine (T5.out _).mono ?_
    rintro e _ ⟨rfl, rfl⟩
    go_wp2_with fail
    refine (Z5.out).mono ?_
    rintro e _ ⟨rfl, rfl⟩
    go_wp2_with fail
    refine (known32_any _).mono ?_
    rintro e w8 ⟨rfl, b8⟩
    go_wp2_with fail
    go_ret
    exact ⟨rfl, below_step d3 b8 (Nat.le_refl _)⟩
end Go.Proofs.Ytbmocffnnlfnjaa
