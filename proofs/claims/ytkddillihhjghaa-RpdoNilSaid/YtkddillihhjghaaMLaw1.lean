/-
  Walk: RpdoNil.
  Conditions: none.
-/
import Derived.Test.YtkddillihhjghaaJ04
import Derived.Test.YtkddillihhjghaaJ15
namespace Go.Proofs.Ytkddillihhjghaa
set_option linter.unusedVariables false
set_option linter.unusedSimpArgs false
open Go.ChangeShapes Go.WideShapes Go.ChangeAt Go.RowKit Go.Sort
set_option maxRecDepth 100000 in
set_option maxHeartbeats 4000000 in
theorem RpdoNil_walk (W : World) {v1 : Nat} {t : Int} {A1 : Option Addr} {n1 c1 : Nat} {ws : List Nat} (hv : v1 < 4294967296) (h1 : RW W W.heap.size A1 n1 c1 ws) (hwl : ∀ x ∈ ws, x < 4294967296) (wt : (Lit.int .i64 t).wf = true) {fid : Int} {rem : Bool} {A2 : Option Addr} {n2 c2 : Nat} {l : List UInt8} (wf : (Lit.int .i64 fid).wf = true) (h2 : RB W W.heap.size A2 n2 c2 l) :
    Calls Try.prog 4 #[.agg #[.int .u32 (v1 : Int), .int .i64 t, .slice A1 n1 c1], .agg #[.int .i64 fid, .bool rem, .slice A2 n2 c2]] W fun e W' => e = .returned (.bool true) ∧ Below W.heap.size W W' := by
  have b0 := alloc_two W (.cells #[.int .u32 (v1 : Int), .int .i64 t, .slice A1 n1 c1] 26) (.cells #[.int .i64 fid, .bool rem, .slice A2 n2 c2] 50)
  have KC := (Blk.new W 26 #[.int .u32 (v1 : Int), .int .i64 t, .slice A1 n1 c1]).alloc (.cells #[.int .i64 fid, .bool rem, .slice A2 n2 c2] 50)
  have KF := Blk.new (W.alloc (.cells #[.int .u32 (v1 : Int), .int .i64 t, .slice A1 n1 c1] 26)) 50 #[.int .i64 fid, .bool rem, .slice A2 n2 c2]
  rw [World.size_alloc] at KF
  have FC := KC.three
  have FF := KF.three
  by_cases h100 : 100 < n1
  · go_enter Try.func4, Try.ntmps4
    go_wp2_with fail
    refine (known31_any _).mono ?_
    rintro e w2 ⟨rfl, b2⟩
    go_wp2_with fail
    go_ret
    exact ⟨rfl, below_step b0 b2 (Nat.le_refl _)⟩
  · by_cases h200 : 100 < n2
    · go_enter Try.func4, Try.ntmps4
      go_wp2_with fail
      refine (known31_any _).mono ?_
      rintro e w2 ⟨rfl, b2⟩
      go_wp2_with fail
      go_ret
      exact ⟨rfl, below_step b0 b2 (Nat.le_refl _)⟩
    · have GV := Lib.hid (fun w => given31_any v1 t A1 n1 c1 w)
      have NN := Lib.hid (fun w => RpNew_nil (.int .u32 (v1 : Int)) (.int .i64 t) (.slice A1 n1 c1) w)
      go_enter Try.func4, Try.ntmps4
      go_wp2_with fail
      refine (GV.out _).mono ?_
      rintro e w1 ⟨rfl, b1⟩
      go_wp2_with fail
      refine (NN.out _).mono ?_
      rintro e w2 ⟨rfl, b2⟩
      have b02 := below_step (below_step b0 b1 (Nat.le_refl _)) b2 (Nat.le_refl _)
      have KF2 := (KF.later b1).later b2
      have b3 := alloc_one w2 (.cells #[.pointer none, .int .i64 0, .slice none 0 0, .slice none 0 0, .nilFunc] 56)
      have KZ := Blk.new w2 56 #[.pointer none, .int .i64 0, .slice none 0 0, .slice none 0 0, .nilFunc]
      have KF3 := KF2.later b3
      have FF3 := KF3.three
      have d3 := below_step b02 b3 (Nat.le_refl _)
      have R1 := Lib.hid (fun w => Recv_dead (w := w) none (fun w' _ => RpId_nil w') fid rem A2 n2 c2)
      clear FC FF KC GV NN b1 b2
      go_wp2_with fail
      refine (R1.out _).mono ?_
      rintro e w4 ⟨rfl, b4⟩
      have b5 := alloc_one w4 (.cells #[.slice none 0 0, .int .i64 0] 47)
      have K9 := Blk.new w4 47 #[.slice none 0 0, .int .i64 0]
      have b45 := below_step b4 b5 (Nat.le_refl _)
      have KF5 := KF3.later b45
      have FF5 := KF5.three
      have KZ5 := KZ.later b45
      have d5 := below_step d3 b45 (Nat.le_refl _)
      have R2 := Lib.hid (Recv_dead (some ⟨w2.heap.size, 0, none⟩) (fun w' hb => RpId_any (KZ5.later hb)) fid rem A2 n2 c2)
      clear FF3 KF3 KF2 KZ b4 b5
      go_wp2_with fail
      refine (R2.out).mono ?_
      rintro e w6 ⟨rfl, b6⟩
      have b7 := alloc_one w6 (.cells #[.slice none 0 0, .int .i64 0] 47)
      have K10 := (Blk.new w6 47 #[.slice none 0 0, .int .i64 0]).two
      have b67 := below_step b6 b7 (Nat.le_refl _)
      have K9' := (K9.later b67).two
      have KZ7 := KZ5.later b67
      have d7 := below_step d5 b67 (Nat.le_refl _)
      have I1 := Lib.hid (fun w => RpId_nil w)
      have P1 := Lib.hid (fun w => Pulse_nil w)
      have I2 := Lib.hid (RpId_any KZ7)
      clear FF5 KF5 K9 KZ5 R1 R2 b6 b7
      go_wp2_with fail
      refine (P1.out _).mono ?_
      rintro e _ ⟨rfl, rfl⟩
      go_wp2_with fail
      refine (I1.out _).mono ?_
      rintro e _ ⟨rfl, rfl⟩
      go_wp2_with fail
      refine (I2.out).mono ?_
      rintro e _ ⟨rfl, rfl⟩
      go_wp2_with fail
      refine (known31_any _).mono ?_
      rintro e w8 ⟨rfl, b8⟩
      go_wp2_with fail
      go_ret
      exact ⟨rfl, below_step d7 b8 (Nat.le_refl _)⟩
end Go.Proofs.Ytkddillihhjghaa
