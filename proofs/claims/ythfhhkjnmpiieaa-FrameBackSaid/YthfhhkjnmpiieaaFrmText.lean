/-
  Walks: frame.cut, Text, and the reference's Text.
  Conditions: none.
-/
import Derived.Test.YthfhhkjnmpiieaaFrmParse
import Derived.Test.YthfhhkjnmpiieaaFrmOwn
import Derived.Test.YthfhhkjnmpiieaaFrmLaws
namespace Go.Proofs.Ythfhhkjnmpiieaa
set_option linter.unusedVariables false
set_option linter.unusedSimpArgs false
open Go.RowKit
def CutPost (s : List UInt8) (w : World) (e : Ending) (w' : World) : Prop :=
  (match Can.lineS s with
   | some (a, b) => e = .returned (.tuple #[.string (T a), .string (T b), .bool true])
   | none => e = .returned (.tuple #[.string (T s), .string ⟨#[]⟩, .bool false])) ∧ Below w.heap.size w w'
theorem cut_none {s : List UInt8} {w w' : World} (h : Can.lineS s = none) (hb : Below w.heap.size w w') : CutPost s w (.returned (.tuple #[.string (T s), .string ⟨#[]⟩, .bool false])) w' := by
  unfold CutPost; rw [h]; exact ⟨rfl, hb⟩
theorem cut_some {s a b : List UInt8} {w w' : World} (h : Can.lineS s = some (a, b)) (hb : Below w.heap.size w w') : CutPost s w (.returned (.tuple #[.string (T a), .string (T b), .bool true])) w' := by
  unfold CutPost; rw [h]; exact ⟨rfl, hb⟩
set_option maxRecDepth 100000 in
set_option maxHeartbeats 1000000 in
theorem cut_any (s : List UInt8) (w : World) (hs : s.length ≤ 9223372036854775807) : Calls Try.prog 32 #[.string (T s)] w (CutPost s w) := by
  have hts := T_size s
  go_enter Try.func32, Try.ntmps32
  go_wp2_with fail
  go_loop [8] (fun i => ∃ k : Nat, k ≤ s.length ∧ i = .int .i64 k ∧ ∀ j, j < k → s.getD j 0 ≠ 10) (fun i => s.length - (intOf i).toNat)
  case atStart => exact ⟨0, by omega, rfl, fun _ h => absurd h (by omega)⟩
  case round =>
    obtain ⟨k, hk, rfl, hno⟩ := hrel
    have HN := Lib.hid hno; clear hno
    by_cases hlt : k < s.length
    · have hat := fun w => run_T_at s .i64 (k : Int) k rfl hlt w
      generalize hx : s.getD k 0 = x at *
      have HX := Lib.hid hx; clear hx
      by_cases h10 : x = 10
      · subst h10
        have hl := Lib.hid (Can.lineS_at hlt HX.out HN.out)
        have hh := fun w => run_T_head s .i64 (k : Int) k rfl (by omega) w
        have hr := fun w => run_T_rest s .i64 ((k : Int) + 1) (k + 1) (by omega) (by omega) w
        go_wp2_with fail
        refine region_later (by kernel_rfl) ?_
        refine phase_later (by kernel_rfl) 0 (below_drew _) [0, 1, 3, 4, 2, 5, 6, 7, 8, 9] rfl (by kernel_rfl) ?_
        simp only [picks, nth]
        repeat (go_big_quiet_step (fail))
        refine wpQuiet_nil ?_
        refine phase_end (by kernel_rfl) ?_
        go_wp2_with fail
        go_ret3
        exact cut_some hl.out (below_drew _)
      · have hb : ((x.toNat : Int) == 10) = false := by
          rw [beq_eq_false_iff_ne]
          intro h
          exact h10 (UInt8.toNat_inj.1 (by have : (10 : UInt8).toNat = 10 := rfl; omega))
        have H10 := Lib.hid h10; clear h10
        go_wp2_with fail
        go_round
        case rel =>
          refine ⟨k + 1, by omega, by go_num, fun j hj => ?_⟩
          rcases Nat.lt_or_ge j k with h | h
          · exact HN.out j h
          · obtain rfl : j = k := by omega
            rw [HX.out]; exact H10.out
        case measure => simp [intOf] <;> omega
    · obtain rfl : k = s.length := by omega
      go_wp2_with fail
      go_ret3
      exact cut_none (Can.lineS_none HN.out) (Below.refl _ _)
theorem drop_getD {α : Type} (l : List α) (k : Nat) (z : α) (h : k < l.length) : l.drop k = l.getD k z :: l.drop (k + 1) := by
  rw [List.drop_eq_getElem_cons h]
  simp [List.getD, h]
set_option maxRecDepth 100000 in
set_option maxHeartbeats 2000000 in
theorem Text_any {A : Option Addr} {n c B : Nat} {fs : List Can.Fr} (w : World) (h : RF w B A n c fs) (hB : B ≤ w.heap.size) (hn : n ≤ 1000000) :
    Calls Try.prog 22 #[.slice A n c] w fun e w' => e = .returned (.tuple #[.string (T (Can.textS fs).1), .int .i64 (Can.textS fs).2]) ∧ Below w.heap.size w w' := by
  have hl := h.len
  generalize hres : Can.textS fs = res
  have HRES := Lib.hid hres; have HL := Lib.hid hl; clear hres hl
  go_enter Try.func22, Try.ntmps22
  go_wp2_with fail
  go_loopw [4, 11] (fun v i wr => ∃ (k : Nat) (acc : List UInt8), k ≤ n ∧ i = .int .i64 k ∧ v = .string (T acc) ∧ Can.textF (fs.drop k) acc = res ∧ acc.length ≤ 21 * k ∧ Below w.heap.size w wr) (fun _ i _ => n - (intOf i).toNat)
  case atStart => exact ⟨0, [], by omega, rfl, rfl, HRES.out, by simp, Below.refl _ _⟩
  case round =>
    obtain ⟨k, acc, hk, rfl, rfl, hacc, hlen, hbel⟩ := hrel
    have HA := Lib.hid hacc; clear hacc
    by_cases hlt : k < n
    · obtain ⟨b, o, A', n', c', rfl, hbB, q0, q1, q2, hr⟩ := (h.below (hbel.mono hB)).at_ hlt
      have hd := drop_getD fs k Can.zero (by rw [HL.out]; exact hlt)
      generalize fs.getD k Can.zero = f at *
      obtain ⟨fi, fr, fd⟩ := f
      dsimp only at q0 q1 hr
      have HD := Lib.hid hd; clear hd
      have hsl := Can.showS_length ⟨fi, fr, fd⟩
      have C1 := Lib.hid (fun (w : World) (h : RB w B A' n' c' fd) (hB : B ≤ w.heap.size) => Show_any fi fr w h hB)
      generalize hsh : Can.showS ⟨fi, fr, fd⟩ = x at *
      obtain ⟨x, e⟩ := x
      dsimp only at *
      have HS := Lib.hid hsh; clear hsh
      have ha1 : ∀ w, (Op.stringOp .add (T x) ⟨#[10]⟩).run Try.prog w = .ok (.string (T (x ++ [10]))) w := fun w => run_T_add x [10] (by simp; omega) w
      have ha2 : ∀ w, (Op.stringOp .add (T acc) (T (x ++ [10]))).run Try.prog w = .ok (.string (T (acc ++ (x ++ [10])))) w := fun w => run_T_add acc (x ++ [10]) (by simp; omega) w
      have hr1 := fun o => hr.alloc (Nat.le_trans hB hbel.size) o
      by_cases he : e = 0
      · subst he
        go_wp2_with fail
        refine (C1.out _ (hr1 _) (by have := hbel.size; simp; omega)).mono ?_
        rintro e w1 ⟨rfl, b1⟩
        have d1 := below_step (below_step hbel (alloc_one wr _) (Nat.le_refl _)) b1 (Nat.le_refl _)
        go_wp2_with fail
        go_roundw
        case rel =>
          refine ⟨k + 1, acc ++ (x ++ [10]), by omega, by go_num, rfl, ?_, by simp; omega, d1⟩
          rw [← HA.out, HD.out]
          simp only [Can.textF, HS.out, if_true]
        case measure => simp [intOf] <;> omega
      · have hb : (e != 0) = true := by simpa using he
        have HE := Lib.hid he; clear he
        go_wp2_with fail
        refine (C1.out _ (hr1 _) (by have := hbel.size; simp; omega)).mono ?_
        rintro e w1 ⟨rfl, b1⟩
        have d1 := below_step (below_step hbel (alloc_one wr _) (Nat.le_refl _)) b1 (Nat.le_refl _)
        go_wp2_with fail
        go_ret2
        refine ⟨?_, d1⟩
        rw [← HA.out, HD.out]
        simp only [Can.textF, HS.out]
        rw [if_neg HE.out]
        rfl
    · obtain rfl : k = n := by omega
      go_wp2_with fail
      go_ret2
      refine ⟨?_, hbel⟩
      rw [← HA.out, List.drop_of_length_le (by rw [HL.out]; exact Nat.le_refl _)]
      rfl
set_option maxRecDepth 100000 in
set_option maxHeartbeats 2000000 in
theorem RText_any {A : Option Addr} {n c B : Nat} {fs : List Can.Fr} (w : World) (h : RF w B A n c fs) (hB : B ≤ w.heap.size) (hn : n ≤ 1000000) :
    Calls Try.prog 23 #[.slice A n c] w fun e w' => e = .returned (.tuple #[.string (T (Can.textS fs).1), .int .i64 (Can.textS fs).2]) ∧ Below w.heap.size w w' := by
  have hl := h.len
  generalize hres : Can.textS fs = res
  have HRES := Lib.hid hres; have HL := Lib.hid hl; clear hres hl
  go_enter Try.func23, Try.ntmps23
  go_wp2_with fail
  go_loopw [4, 5] (fun v i wr => ∃ (k : Nat) (acc : List UInt8), k ≤ n ∧ i = .int .i64 k ∧ v = .string (T acc) ∧ Can.textF (fs.drop k) acc = res ∧ acc.length ≤ 21 * k ∧ Below w.heap.size w wr) (fun _ i _ => n - (intOf i).toNat)
  case atStart => exact ⟨0, [], by omega, rfl, rfl, HRES.out, by simp, Below.refl _ _⟩
  case round =>
    obtain ⟨k, acc, hk, rfl, rfl, hacc, hlen, hbel⟩ := hrel
    have HA := Lib.hid hacc; clear hacc
    by_cases hlt : k < n
    · obtain ⟨b, o, A', n', c', rfl, hbB, q0, q1, q2, hr⟩ := (h.below (hbel.mono hB)).at_ hlt
      have hd := drop_getD fs k Can.zero (by rw [HL.out]; exact hlt)
      generalize fs.getD k Can.zero = f at *
      obtain ⟨fi, fr, fd⟩ := f
      dsimp only at q0 q1 hr
      have HD := Lib.hid hd; clear hd
      have hsl := Can.showS_length ⟨fi, fr, fd⟩
      have C1 := Lib.hid (fun (w : World) (h : RB w B A' n' c' fd) (hB : B ≤ w.heap.size) => RShow_any fi fr w h hB)
      generalize hsh : Can.showS ⟨fi, fr, fd⟩ = x at *
      obtain ⟨x, e⟩ := x
      dsimp only at *
      have HS := Lib.hid hsh; clear hsh
      have ha1 : ∀ w, (Op.stringOp .add (T acc) (T x)).run Try.prog w = .ok (.string (T (acc ++ x))) w := fun w => run_T_add acc x (by omega) w
      have ha2 : ∀ w, (Op.stringOp .add (T (acc ++ x)) ⟨#[10]⟩).run Try.prog w = .ok (.string (T (acc ++ x ++ [10]))) w := fun w => run_T_add (acc ++ x) [10] (by simp; omega) w
      by_cases he : e = 0
      · subst he
        go_wp2_with fail
        refine (C1.out _ hr (Nat.le_trans hB hbel.size)).mono ?_
        rintro e w1 ⟨rfl, b1⟩
        have d1 := below_step hbel b1 (Nat.le_refl _)
        go_wp2_with fail
        go_roundw
        case rel =>
          refine ⟨k + 1, acc ++ (x ++ [10]), by omega, by go_num, rfl, ?_, by simp; omega, d1⟩
          rw [← HA.out, HD.out]
          simp only [Can.textF, HS.out, if_true]
        case measure => simp [intOf] <;> omega
      · have hb : (e != 0) = true := by simpa using he
        have HE := Lib.hid he; clear he
        go_wp2_with fail
        refine (C1.out _ hr (Nat.le_trans hB hbel.size)).mono ?_
        rintro e w1 ⟨rfl, b1⟩
        have d1 := below_step hbel b1 (Nat.le_refl _)
        go_wp2_with fail
        go_ret2
        refine ⟨?_, d1⟩
        rw [← HA.out, HD.out]
        simp only [Can.textF, HS.out]
        rw [if_neg HE.out]
        rfl
    · obtain rfl : k = n := by omega
      go_wp2_with fail
      go_ret2
      refine ⟨?_, hbel⟩
      rw [← HA.out, List.drop_of_length_le (by rw [HL.out]; exact Nat.le_refl _)]
      rfl
end Go.Proofs.Ythfhhkjnmpiieaa
