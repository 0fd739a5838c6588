/-
  Walks: given, taken, light, the reference's Same, of the statements of layer 29.
  Conditions: none.
-/
import Derived.Test.YtecgahhdbhdplaaBitMem
import Derived.Deep.QuietTactic
import Derived.BigQuiet
namespace Go.Proofs.Ytecgahhdbhdplaa
set_option linter.unusedVariables false
set_option linter.unusedSimpArgs false
open Go.RowKit
set_option maxRecDepth 100000 in
set_option maxHeartbeats 2000000 in
theorem given_any {A : Option Addr} {n c B B' : Nat} {fs : List Bt.Fld} (w : World) (h : RFl w B B' A n c fs) (hn : n ≤ 1000000) (hB : B ≤ w.heap.size) (hB' : B' ≤ B) :
    Calls Try.prog 19 #[.slice A n c] w fun e w' => ∃ A1 c1, e = .returned (.slice A1 n c1) ∧ RFl w' w'.heap.size w.heap.size A1 n c1 fs ∧ Below w.heap.size w w' := by
  have hl := h.len
  go_enter Try.func19, Try.ntmps19
  go_wp2_with fail
  go_loopw [3, 4] (fun v u wr => ∃ (k : Nat) (A1 : Option Addr) (c1 : Nat), k ≤ n ∧ u = .int .i64 k ∧ v = .slice A1 k c1 ∧ OS (FlC w w.heap.size) wr w.heap.size 51 2 A1 k c1 (fs.take k) ∧ Below w.heap.size w wr) (fun _ u _ => n - (intOf u).toNat)
  case atStart => exact ⟨0, none, 0, by omega, rfl, rfl, OS.none_ _ _ _ _, Below.refl _ _⟩
  case round =>
    obtain ⟨k, A1, c1, hk, rfl, rfl, os, bb⟩ := hrel
    by_cases hlt : k < n
    · obtain ⟨b, o, A2, n2, c2, rfl, hbB, q0, q1, hr⟩ := h.at_ hlt
      have hnx : fs.take (k + 1) = fs.take k ++ [fs.getD k Bt.Fld.zero] := by
        have : k < fs.length := by omega
        rw [List.take_succ_eq_append_getElem this]
        simp [List.getD, this]
      generalize fs.getD k Bt.Fld.zero = f at *
      obtain ⟨m, l⟩ := f
      dsimp only at *
      replace q0 := cell_regrown q0
      replace q1 := cell_regrown q1
      have HN := Lib.hid hnx; clear hnx
      have i0 : (0 : Int) ≤ (k : Int) := by omega
      have i1 : (k : Int) < (n : Int) := by omega
      go_wp2_with fail
      refine region_since (w0 := w) (by kernel_rfl) ?_
      refine phase_later (by kernel_rfl) 3 (bb.drew) [0, 1, 2, 6, 7, 3, 8, 4, 9, 5, 10, 11] rfl (by kernel_rfl) ?_
      simp only [picks, nth]
      repeat (go_big_quiet_step (fail))
      refine wpQuiet_nil ?_
      refine phase_op 12 2 rfl (by kernel_rfl) (by decide) ?_
      simp only [nth]
      go_wp2_with fail
      have b4 := (bb.alloc bb.size (.cells #[.int .i64 m, .slice A2 n2 c2] 51)).drew
      have os4 := os.below ((alloc_one wr (.cells #[.int .i64 m, .slice A2 n2 c2] 51)).drew) (R' := FlC w w.heap.size) fun _ _ h => h
      refine behind_since b4 ?_
      refine phase_op 13 1 rfl (by kernel_rfl) (by decide) ?_
      simp only [nth]
      go_wp2_with (at_builtin; refine wpList_apps2 etfl (fun _ => FlC w w.heap.size) rfl (.tmp 11) (.tmp 23) rfl rfl rfl w.heap.size os4 ⟨m, l⟩ (RV.drew (RV.new wr 51 rfl)) ⟨A2, n2, c2, rfl, hr.more (Nat.le_trans hB' hB)⟩ (field_oneCell _ _ _ _) (by omega) (by omega) b4.size (fun w1 A1 n1 c1 xs h g f cs hf => hf) ?_; intro A3 c3 w3 os3 b3 g3 _)
      have d3 := b4.trans b3
      refine behind_since d3 ?_
      refine phase_later (by kernel_rfl) 0 d3 [14] rfl (by kernel_rfl) ?_
      simp only [picks, nth]
      repeat (go_big_quiet_step (fail))
      refine wpQuiet_nil ?_
      refine phase_end (by kernel_rfl) ?_
      go_wp2_with fail
      go_roundw
      case rel => exact ⟨k + 1, A3, c3, by omega, by go_num, rfl, by rw [HN.out]; exact os3, d3⟩
      case measure => simp [intOf] <;> omega
    · obtain rfl : k = n := by omega
      go_wp2_with fail
      go_ret
      refine ⟨A1, c1, rfl, ?_, bb⟩
      rw [show fs.take k = fs from List.take_of_length_le (by omega)] at os
      exact os.rs.imp fun _ _ hf => hf.below bb
set_option maxRecDepth 100000 in
set_option maxHeartbeats 2000000 in
theorem taken_any {A : Option Addr} {n c B B' : Nat} {fs : List Bt.Fld} (w : World) (h : RFl w B B' A n c fs) (hn : n ≤ 1000000) (hB : B ≤ w.heap.size) (hB' : B' ≤ B) :
    Calls Try.prog 24 #[.slice A n c] w fun e w' => ∃ A1 c1, e = .returned (.slice A1 n c1) ∧ RFl w' w'.heap.size w.heap.size A1 n c1 fs ∧ Below w.heap.size w w' := by
  have hl := h.len
  go_enter Try.func24, Try.ntmps24
  go_wp2_with fail
  go_loopw [3, 4] (fun v u wr => ∃ (k : Nat) (A1 : Option Addr) (c1 : Nat), k ≤ n ∧ u = .int .i64 k ∧ v = .slice A1 k c1 ∧ OS (FlC w w.heap.size) wr w.heap.size 53 2 A1 k c1 (fs.take k) ∧ Below w.heap.size w wr) (fun _ u _ => n - (intOf u).toNat)
  case atStart => exact ⟨0, none, 0, by omega, rfl, rfl, OS.none_ _ _ _ _, Below.refl _ _⟩
  case round =>
    obtain ⟨k, A1, c1, hk, rfl, rfl, os, bb⟩ := hrel
    by_cases hlt : k < n
    · obtain ⟨b, o, A2, n2, c2, rfl, hbB, q0, q1, hr⟩ := h.at_ hlt
      have hnx : fs.take (k + 1) = fs.take k ++ [fs.getD k Bt.Fld.zero] := by
        have : k < fs.length := by omega
        rw [List.take_succ_eq_append_getElem this]
        simp [List.getD, this]
      generalize fs.getD k Bt.Fld.zero = f at *
      obtain ⟨m, l⟩ := f
      dsimp only at *
      replace q0 := cell_regrown q0
      replace q1 := cell_regrown q1
      have HN := Lib.hid hnx; clear hnx
      have i0 : (0 : Int) ≤ (k : Int) := by omega
      have i1 : (k : Int) < (n : Int) := by omega
      go_wp2_with fail
      refine region_since (w0 := w) (by kernel_rfl) ?_
      refine phase_later (by kernel_rfl) 3 (bb.drew) [0, 1, 2, 6, 7, 3, 8, 4, 9, 5, 10, 11] rfl (by kernel_rfl) ?_
      simp only [picks, nth]
      repeat (go_big_quiet_step (fail))
      refine wpQuiet_nil ?_
      refine phase_op 12 2 rfl (by kernel_rfl) (by decide) ?_
      simp only [nth]
      go_wp2_with fail
      have b4 := (bb.alloc bb.size (.cells #[.int .i64 m, .slice A2 n2 c2] 53)).drew
      have os4 := os.below ((alloc_one wr (.cells #[.int .i64 m, .slice A2 n2 c2] 53)).drew) (R' := FlC w w.heap.size) fun _ _ h => h
      refine behind_since b4 ?_
      refine phase_op 13 1 rfl (by kernel_rfl) (by decide) ?_
      simp only [nth]
      go_wp2_with (at_builtin; refine wpList_apps2 etrfl (fun _ => FlC w w.heap.size) rfl (.tmp 11) (.tmp 23) rfl rfl rfl w.heap.size os4 ⟨m, l⟩ (RV.drew (RV.new wr 53 rfl)) ⟨A2, n2, c2, rfl, hr.more (Nat.le_trans hB' hB)⟩ (field_oneCell _ _ _ _) (by omega) (by omega) b4.size (fun w1 A1 n1 c1 xs h g f cs hf => hf) ?_; intro A3 c3 w3 os3 b3 g3 _)
      have d3 := b4.trans b3
      refine behind_since d3 ?_
      refine phase_later (by kernel_rfl) 0 d3 [14] rfl (by kernel_rfl) ?_
      simp only [picks, nth]
      repeat (go_big_quiet_step (fail))
      refine wpQuiet_nil ?_
      refine phase_end (by kernel_rfl) ?_
      go_wp2_with fail
      go_roundw
      case rel => exact ⟨k + 1, A3, c3, by omega, by go_num, rfl, by rw [HN.out]; exact os3, d3⟩
      case measure => simp [intOf] <;> omega
    · obtain rfl : k = n := by omega
      go_wp2_with fail
      go_ret
      refine ⟨A1, c1, rfl, ?_, bb⟩
      rw [show fs.take k = fs from List.take_of_length_le (by omega)] at os
      exact os.rs.imp fun _ _ hf => hf.below bb
set_option maxRecDepth 100000 in
set_option maxHeartbeats 2000000 in
/-- Two slices of the same fields. -/
theorem Same_eq {A : Option Addr} {n c B B' : Nat} {fs : List Bt.Fld} {A1 : Option Addr} {n1 c1 B1 B1' : Nat} (w : World) (h : RFl w B B' A n c fs) (h1 : RFl w B1 B1' A1 n1 c1 fs) :
    Calls Try.prog 23 #[.slice A n c, .slice A1 n1 c1] w fun e w' => e = .returned (.bool true) ∧ ∃ k, w' = w.drewN k := by
  obtain rfl : n = n1 := h.len.symm.trans h1.len
  have hn := h.lt
  go_enter Try.func23, Try.ntmps23
  go_wp2_with fail
  go_loopw [5] (fun i wr => ∃ k : Nat, k ≤ n ∧ i = .int .i64 k ∧ ∃ d, wr = w.drewN d) (fun i _ => n - (intOf i).toNat)
  case atStart => exact ⟨0, by omega, rfl, 0, rfl⟩
  case round =>
    obtain ⟨k, hk, rfl, d, rfl⟩ := hrel
    by_cases hlt : k < n
    · obtain ⟨b, o, A2, n2, c2, rfl, hbB, q0, q1, hr⟩ := h.at_ hlt
      obtain ⟨b', o', A3, n3, c3, rfl, hbB', q0', q1', hr'⟩ := h1.at_ hlt
      generalize fs.getD k Bt.Fld.zero = f at *
      obtain ⟨m, l⟩ := f
      dsimp only at *
      have e1 := fun d => convb (hr.drewN d)
      have e2 := fun d => convb (hr'.drewN d)
      have i0 : (0 : Int) ≤ (k : Int) := by omega
      have i1 : (k : Int) < (n : Int) := by omega
      have hmm : (m != m) = false := by simp
      clear hr hr'
      go_wp2_with fail
      go_quiet (fail)
      go_wp2_with fail
      go_roundw
      case rel => exact ⟨k + 1, by omega, by go_num, _, rfl⟩
      case measure => simp [intOf] <;> omega
    · obtain rfl : k = n := by omega
      go_wp2_with fail
      go_ret
      exact ⟨rfl, _, rfl⟩
def LightPost29 (n : Nat) (fs : List Bt.Fld) (w : World) (e : Ending) (w' : World) : Prop := ∃ b : Bool, e = .returned (.bool b) ∧ w = w' ∧ (b = true → n ≤ 100 ∧ ∀ f ∈ fs, f.data.length ≤ 100)
theorem light29_no {n : Nat} {fs : List Bt.Fld} {w : World} : LightPost29 n fs w (.returned (.bool false)) w := ⟨false, rfl, rfl, fun h => by cases h⟩
theorem light29_yes {n : Nat} {fs : List Bt.Fld} {w : World} (h : n ≤ 100 ∧ ∀ f ∈ fs, f.data.length ≤ 100) : LightPost29 n fs w (.returned (.bool true)) w := ⟨true, rfl, rfl, fun _ => h⟩
set_option maxRecDepth 100000 in
set_option maxHeartbeats 1000000 in
theorem light29_any {A : Option Addr} {n c B B' : Nat} {fs : List Bt.Fld} (w : World) (h : RFl w B B' A n c fs) :
    Calls Try.prog 17 #[.slice A n c] w (LightPost29 n fs w) := by
  have hl := h.len
  have hn := h.lt
  by_cases h100 : 100 < n
  · go_enter Try.func17, Try.ntmps17
    go_wp2_with fail
    go_ret
    exact light29_no
  · have HL := Lib.hid hl; clear hl
    go_enter Try.func17, Try.ntmps17
    go_wp2_with fail
    go_loop [3] (fun i => ∃ k : Nat, k ≤ n ∧ i = .int .i64 k ∧ ∀ j, j < k → (fs.getD j Bt.Fld.zero).data.length ≤ 100) (fun i => n - (intOf i).toNat)
    case atStart => exact ⟨0, by omega, rfl, fun _ h => absurd h (by omega)⟩
    case round =>
      obtain ⟨k, hk, rfl, hall⟩ := hrel
      have HALL := Lib.hid hall; clear hall
      by_cases hlt : k < n
      · obtain ⟨b, o, A1, n1, c1, rfl, hbB, q0, q1, hr⟩ := h.at_ hlt
        clear q0
        by_cases hbig : 100 < n1
        · go_wp2_with fail
          go_ret
          exact light29_no
        · have hrl := hr.len
          have HRL := Lib.hid hrl; clear hrl hr
          go_wp2_with fail
          go_round
          case rel =>
            refine ⟨k + 1, by omega, by go_num, fun j hj => ?_⟩
            rcases Nat.lt_or_ge j k with h | h
            · exact HALL.out j h
            · obtain rfl : j = k := by omega
              rw [HRL.out]; omega
          case measure => simp [intOf] <;> omega
      · obtain rfl : k = n := by omega
        go_wp2_with fail
        go_ret
        refine light29_yes ⟨by omega, fun f hf => ?_⟩
        obtain ⟨i, hi, rfl⟩ := List.getElem_of_mem hf
        have := HALL.out i (by have := HL.out; omega)
        simpa [List.getD, hi] using this
end Go.Proofs.Ytecgahhdbhdplaa
