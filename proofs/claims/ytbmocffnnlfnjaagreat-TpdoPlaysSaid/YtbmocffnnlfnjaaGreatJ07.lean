/-
  Texts joined: EntRule, Typ, TypOf, TypLim, TypRef, OctPut, OctGet, OctBits.
  Conditions: none.
-/
import Derived.Test.YtbmocffnnlfnjaaGreatJ01
import Derived.Test.YtbmocffnnlfnjaaGreatJ04
import Derived.Test.YtbmocffnnlfnjaaGreatJ05
import Derived.Laws.Tables
import Derived.KernelRfl
import Derived.Deep.QuietTactic
import Derived.BigQuiet
/-
  Walks: the small rules of layer 14.
  Conditions: none.
-/
namespace Go.Proofs.YtbmocffnnlfnjaaGreat
set_option linter.unusedVariables false
set_option linter.unusedSimpArgs false
open Go.RowKit
set_option maxRecDepth 100000 in
set_option maxHeartbeats 4000000 in
theorem flags_any (e : Ent.En) (A : Option Addr) (n c : Nat) (w : World) : Calls Tryz.prog 58 #[enV e A n c] w fun x w' => x = .returned (.bool (Ent.flagsB e)) ∧ Below w.heap.size w w' := by
  obtain ⟨ix, sb, nm, ty, ac, mp, st, mx, lo, hi, df⟩ := e
  unfold enV
  dsimp only
  by_cases h1 : ac = 1
  · subst h1
    cases mp <;> cases st
    all_goals
      go_enter Tryz.func58, Tryz.ntmps58
      go_wp2_with fail
      go_ret
      exact ⟨rfl, alloc_one _ _⟩
  by_cases h2 : ac = 2
  · subst h2
    cases st
    all_goals
      go_enter Tryz.func58, Tryz.ntmps58
      go_wp2_with fail
      go_ret
      exact ⟨rfl, alloc_one _ _⟩
  by_cases h3 : ac = 3
  · subst h3
    go_enter Tryz.func58, Tryz.ntmps58
    go_wp2_with fail
    go_ret
    exact ⟨rfl, alloc_one _ _⟩
  by_cases h4 : ac = 4
  · subst h4
    go_enter Tryz.func58, Tryz.ntmps58
    go_wp2_with fail
    go_ret
    exact ⟨rfl, alloc_one _ _⟩
  have e1 : (ac == 1) = false := beq_false_of_ne h1
  have e2 : (ac == 2) = false := beq_false_of_ne h2
  have e3 : (ac == 3) = false := beq_false_of_ne h3
  have e4 : (ac == 4) = false := beq_false_of_ne h4
  have hv : Ent.flagsB ⟨ix, sb, nm, ty, ac, mp, st, mx, lo, hi, df⟩ = false := by unfold Ent.flagsB; rw [if_neg h1, if_neg h2]; simp [h3, h4]
  rw [hv]
  clear hv h1 h2 h3 h4
  go_enter Tryz.func58, Tryz.ntmps58
  go_wp2_with fail
  go_ret
  exact ⟨rfl, alloc_one _ _⟩
set_option maxRecDepth 100000 in
set_option maxHeartbeats 4000000 in
theorem numbered_any (e : Ent.En) (A : Option Addr) (n c : Nat) (l h : Int) (w : World) : Calls Tryz.prog 59 #[enV e A n c, .int .i64 l, .int .i64 h] w fun x w' => x = .returned (.bool (Ent.numberedB e l h)) ∧ Below w.heap.size w w' := by
  obtain ⟨ix, sb, nm, ty, ac, mp, st, mx, lo, hi, df⟩ := e
  unfold enV
  dsimp only
  by_cases h1 : mx = 0
  · by_cases h2 : l ≤ lo
    · by_cases h3 : lo ≤ hi
      · by_cases h4 : hi ≤ h
        all_goals
          go_enter Tryz.func59, Tryz.ntmps59
          go_wp2_with fail
          go_ret
          exact ⟨ret_bool (by rw [Bool.eq_iff_iff]; simp [Ent.numberedB] <;> omega), alloc_one _ _⟩
      · go_enter Tryz.func59, Tryz.ntmps59
        go_wp2_with fail
        go_ret
        exact ⟨ret_bool (by rw [Bool.eq_iff_iff]; simp [Ent.numberedB] <;> omega), alloc_one _ _⟩
    · go_enter Tryz.func59, Tryz.ntmps59
      go_wp2_with fail
      go_ret
      exact ⟨ret_bool (by rw [Bool.eq_iff_iff]; simp [Ent.numberedB] <;> omega), alloc_one _ _⟩
  · have e1 : (mx == 0) = false := beq_false_of_ne h1
    go_enter Tryz.func59, Tryz.ntmps59
    go_wp2_with fail
    go_ret
    exact ⟨ret_bool (by rw [Bool.eq_iff_iff]; simp [Ent.numberedB] <;> omega), alloc_one _ _⟩
set_option maxRecDepth 100000 in
set_option maxHeartbeats 4000000 in
theorem sized_any (e : Ent.En) (A : Option Addr) (n c : Nat) (w : World) : Calls Tryz.prog 60 #[enV e A n c] w fun x w' => x = .returned (.bool (Ent.sizedB e)) ∧ Below w.heap.size w w' := by
  obtain ⟨ix, sb, nm, ty, ac, mp, st, mx, lo, hi, df⟩ := e
  unfold enV
  dsimp only
  by_cases h1 : lo = 0
  · by_cases h2 : hi = 0
    · subst h1 h2
      by_cases h3 : 1 ≤ mx
      · by_cases h4 : mx ≤ 256
        · cases mp
          all_goals
            go_enter Tryz.func60, Tryz.ntmps60
            go_wp2_with fail
            go_ret
            exact ⟨ret_bool (by rw [Bool.eq_iff_iff]; simp [Ent.sizedB] <;> omega), alloc_one _ _⟩
        · go_enter Tryz.func60, Tryz.ntmps60
          go_wp2_with fail
          go_ret
          exact ⟨ret_bool (by rw [Bool.eq_iff_iff]; simp [Ent.sizedB] <;> omega), alloc_one _ _⟩
      · go_enter Tryz.func60, Tryz.ntmps60
        go_wp2_with fail
        go_ret
        exact ⟨ret_bool (by rw [Bool.eq_iff_iff]; simp [Ent.sizedB] <;> omega), alloc_one _ _⟩
    · have e1 : (hi == 0) = false := beq_false_of_ne h2
      subst h1
      go_enter Tryz.func60, Tryz.ntmps60
      go_wp2_with fail
      go_ret
      exact ⟨ret_bool (by rw [Bool.eq_iff_iff]; simp [Ent.sizedB] <;> omega), alloc_one _ _⟩
  · have e1 : (lo == 0) = false := beq_false_of_ne h1
    go_enter Tryz.func60, Tryz.ntmps60
    go_wp2_with fail
    go_ret
    exact ⟨ret_bool (by rw [Bool.eq_iff_iff]; simp [Ent.sizedB] <;> omega), alloc_one _ _⟩
set_option maxRecDepth 100000 in
set_option maxHeartbeats 4000000 in
theorem Readable_any (e : Ent.En) (A : Option Addr) (n c : Nat) (w : World) : Calls Tryz.prog 106 #[enV e A n c] w fun x w' => x = .returned (.int .u32 (Ent.readS e)) ∧ Below w.heap.size w w' := by
  obtain ⟨ix, sb, nm, ty, ac, mp, st, mx, lo, hi, df⟩ := e
  unfold enV
  dsimp only
  by_cases h1 : ac = 3
  · subst h1
    go_enter Tryz.func106, Tryz.ntmps106
    go_wp2_with fail
    go_ret
    exact ⟨rfl, alloc_one _ _⟩
  · have e1 : (ac == 3) = false := beq_false_of_ne h1
    have hv : Ent.readS ⟨ix, sb, nm, ty, ac, mp, st, mx, lo, hi, df⟩ = 0 := if_neg h1
    rw [hv]
    clear hv h1
    go_enter Tryz.func106, Tryz.ntmps106
    go_wp2_with fail
    go_ret
    exact ⟨rfl, alloc_one _ _⟩
set_option maxRecDepth 100000 in
set_option maxHeartbeats 4000000 in
theorem RReadable_any (e : Ent.En) (A : Option Addr) (n c : Nat) (w : World) : Calls Tryz.prog 71 #[enV e A n c] w fun x w' => x = .returned (.int .u32 (Ent.readS e)) ∧ Below w.heap.size w w' := by
  obtain ⟨ix, sb, nm, ty, ac, mp, st, mx, lo, hi, df⟩ := e
  unfold enV
  dsimp only
  by_cases h1 : ac = 3
  · subst h1
    go_enter Tryz.func71, Tryz.ntmps71
    go_wp2_with fail
    go_ret
    exact ⟨rfl, alloc_one _ _⟩
  · have e1 : (ac == 3) = false := beq_false_of_ne h1
    have hv : Ent.readS ⟨ix, sb, nm, ty, ac, mp, st, mx, lo, hi, df⟩ = 0 := if_neg h1
    rw [hv]
    clear hv h1
    go_enter Tryz.func71, Tryz.ntmps71
    go_wp2_with fail
    go_ret
    exact ⟨rfl, alloc_one _ _⟩
set_option maxRecDepth 100000 in
set_option maxHeartbeats 4000000 in
theorem Writable_any (e : Ent.En) (A : Option Addr) (n c : Nat) (w : World) : Calls Tryz.prog 97 #[enV e A n c] w fun x w' => x = .returned (.int .u32 (Ent.writS e)) ∧ Below w.heap.size w w' := by
  obtain ⟨ix, sb, nm, ty, ac, mp, st, mx, lo, hi, df⟩ := e
  unfold enV
  dsimp only
  by_cases h1 : ac = 1
  · subst h1
    go_enter Tryz.func97, Tryz.ntmps97
    go_wp2_with fail
    go_ret
    exact ⟨rfl, alloc_one _ _⟩
  by_cases h2 : ac = 2
  · subst h2
    go_enter Tryz.func97, Tryz.ntmps97
    go_wp2_with fail
    go_ret
    exact ⟨rfl, alloc_one _ _⟩
  have e1 : (ac == 1) = false := beq_false_of_ne h1
  have e2 : (ac == 2) = false := beq_false_of_ne h2
  have hv : Ent.writS ⟨ix, sb, nm, ty, ac, mp, st, mx, lo, hi, df⟩ = 0 := if_neg (fun h => h.elim h1 h2)
  rw [hv]
  clear hv h1 h2
  go_enter Tryz.func97, Tryz.ntmps97
  go_wp2_with fail
  go_ret
  exact ⟨rfl, alloc_one _ _⟩
set_option maxRecDepth 100000 in
set_option maxHeartbeats 4000000 in
theorem RWritable_any (e : Ent.En) (A : Option Addr) (n c : Nat) (w : World) : Calls Tryz.prog 70 #[enV e A n c] w fun x w' => x = .returned (.int .u32 (Ent.writS e)) ∧ Below w.heap.size w w' := by
  obtain ⟨ix, sb, nm, ty, ac, mp, st, mx, lo, hi, df⟩ := e
  unfold enV
  dsimp only
  by_cases h1 : ac = 1
  · subst h1
    go_enter Tryz.func70, Tryz.ntmps70
    go_wp2_with fail
    go_ret
    exact ⟨rfl, alloc_one _ _⟩
  by_cases h2 : ac = 2
  · subst h2
    go_enter Tryz.func70, Tryz.ntmps70
    go_wp2_with fail
    go_ret
    exact ⟨rfl, alloc_one _ _⟩
  have e1 : (ac == 1) = false := beq_false_of_ne h1
  have e2 : (ac == 2) = false := beq_false_of_ne h2
  have hv : Ent.writS ⟨ix, sb, nm, ty, ac, mp, st, mx, lo, hi, df⟩ = 0 := if_neg (fun h => h.elim h1 h2)
  rw [hv]
  clear hv h1 h2
  go_enter Tryz.func70, Tryz.ntmps70
  go_wp2_with fail
  go_ret
  exact ⟨rfl, alloc_one _ _⟩
end Go.Proofs.YtbmocffnnlfnjaaGreat
/-
  Walks: types.kinds, of, and what is known of a type.
  Conditions: none.
-/
namespace Go.Proofs.YtbmocffnnlfnjaaGreat
set_option linter.unusedVariables false
set_option linter.unusedSimpArgs false
open Go.RowKit
/-- The cells of what is known of a type. -/
def kc (t : Int) : Array Value := #[.string (T (Ty.kd t).name), .int .i64 ((Ty.kd t).size : Int), .int .i64 ((Ty.kd t).bits : Int), .bool (Ty.kd t).sgn]
def kcells : Array Value := ((List.range 32).flatMap fun (t : Nat) => (kc (t : Int)).toList).toArray
theorem run_kind : ∀ (k : Nat) (_ : k < 32) (w : World), (Instr.index 140 (.agg kcells) (.int .i64 (k : Int))).run Tryz.prog w = .ok (.agg (kc (k : Int))) w
  | 0, _ => fun _ => by kernel_rfl
  | 1, _ => fun _ => by kernel_rfl
  | 2, _ => fun _ => by kernel_rfl
  | 3, _ => fun _ => by kernel_rfl
  | 4, _ => fun _ => by kernel_rfl
  | 5, _ => fun _ => by kernel_rfl
  | 6, _ => fun _ => by kernel_rfl
  | 7, _ => fun _ => by kernel_rfl
  | 8, _ => fun _ => by kernel_rfl
  | 9, _ => fun _ => by kernel_rfl
  | 10, _ => fun _ => by kernel_rfl
  | 11, _ => fun _ => by kernel_rfl
  | 12, _ => fun _ => by kernel_rfl
  | 13, _ => fun _ => by kernel_rfl
  | 14, _ => fun _ => by kernel_rfl
  | 15, _ => fun _ => by kernel_rfl
  | 16, _ => fun _ => by kernel_rfl
  | 17, _ => fun _ => by kernel_rfl
  | 18, _ => fun _ => by kernel_rfl
  | 19, _ => fun _ => by kernel_rfl
  | 20, _ => fun _ => by kernel_rfl
  | 21, _ => fun _ => by kernel_rfl
  | 22, _ => fun _ => by kernel_rfl
  | 23, _ => fun _ => by kernel_rfl
  | 24, _ => fun _ => by kernel_rfl
  | 25, _ => fun _ => by kernel_rfl
  | 26, _ => fun _ => by kernel_rfl
  | 27, _ => fun _ => by kernel_rfl
  | 28, _ => fun _ => by kernel_rfl
  | 29, _ => fun _ => by kernel_rfl
  | 30, _ => fun _ => by kernel_rfl
  | 31, _ => fun _ => by kernel_rfl
  | k + 32, h => absurd h (by omega)
theorem below_setRow {B : Nat} {a w : World} (h : Below B a w) {g : Nat} (hg : B ≤ g) (cs : Array Value) : Below B a (w.setRow g cs) :=
  ⟨h.os, h.tape, h.output, by rw [size_setRow]; exact h.size, fun b hb => (setRow_other w g b cs (by omega)).trans (h.block b hb)⟩
set_option maxRecDepth 100000 in
set_option maxHeartbeats 4000000 in
theorem kinds_any (w : World) : Calls Tryz.prog 100 #[] w fun e w' => e = .returned (.agg kcells) ∧ Below w.heap.size w w' := by
  go_enter Tryz.func100, Tryz.ntmps100
  go_wp2_with (refine wpList_store_row rfl 140 (.tmp 0) (.tmp 12) rfl w.heap.size kcells (by kernel_rfl) (by kernel_rfl) 140 _ (heap_alloc_new w _) (by kernel_rfl) (by kernel_rfl) (by kernel_rfl) ?_)
  exact bodyPost_ret (v := .agg kcells) (results_cell_row Tryz.results100 _ _ w.heap.size 140 kcells (0, 0) _ (by kernel_rfl) (setRow_heap _ _ _ _ _ _ (heap_alloc_new w _)) Tryz.underlying140 rfl (by kernel_rfl)) rfl ⟨rfl, below_setRow (alloc_one w _) (Nat.le_refl _) _⟩
end Go.Proofs.YtbmocffnnlfnjaaGreat
/-
  Walks: what is known of a type.
  Conditions: none.
-/
namespace Go.Proofs.YtbmocffnnlfnjaaGreat
set_option linter.unusedVariables false
set_option linter.unusedSimpArgs false
open Go.RowKit
set_option maxRecDepth 100000 in
set_option maxHeartbeats 4000000 in
theorem of_any (t : Int) (w : World) : Calls Tryz.prog 78 #[.int .i64 t] w fun e w' => e = .returned (.agg #[.string (T (Ty.kd t).name), .int .i64 ((Ty.kd t).size : Int), .int .i64 ((Ty.kd t).bits : Int), .bool (Ty.kd t).sgn]) ∧ Below w.heap.size w w' := by
  by_cases h : 0 ≤ t ∧ t < 32
  · obtain ⟨h1, h2⟩ := h
    obtain ⟨k, rfl⟩ : ∃ k : Nat, t = (k : Int) := ⟨t.toNat, by omega⟩
    have hr := run_kind k (by omega)
    unfold kc at hr
    generalize (Ty.kd (k : Int)).name = nm at *
    generalize (Ty.kd (k : Int)).size = sz at *
    generalize (Ty.kd (k : Int)).bits = bt at *
    generalize (Ty.kd (k : Int)).sgn = sg at *
    generalize hkc : kcells = K at *
    have C := Lib.hid (fun w => kinds_any w)
    rw [hkc] at C
    clear hkc
    go_enter Tryz.func78, Tryz.ntmps78
    go_wp2_with fail
    refine (C.out _).mono ?_
    rintro e w1 ⟨rfl, b1⟩
    have KB := Blk.made b1
    have F := KB.four
    have hlt := KB.lt
    go_wp2_with fail
    have K4 := KB.store4 (.string (T nm)) (.int .i64 (sz : Int)) (.int .i64 (bt : Int)) (.bool sg)
    have F4 := K4.four.1
    exact bodyPost_ret (v := .agg #[.string (T nm), .int .i64 (sz : Int), .int .i64 (bt : Int), .bool sg]) (by simp [results, Tryz.results78, go_sem, F4]) rfl ⟨rfl, ((((below_step (alloc_one _ _) b1 (Nat.le_refl _)).setCell (p := ⟨w.heap.size, 0, none⟩) (Nat.le_refl _) _).setCell (p := ⟨w.heap.size, 1, none⟩) (Nat.le_refl _) _).setCell (p := ⟨w.heap.size, 2, none⟩) (Nat.le_refl _) _).setCell (p := ⟨w.heap.size, 3, none⟩) (Nat.le_refl _) _⟩
  · have e : Ty.kd t = Ty.kd0 := Ty.kd_none (by
      intro hm
      unfold Ty.nums at hm
      simp only [List.mem_cons, List.not_mem_nil, or_false] at hm
      omega)
    rw [e]
    rcases (show t < 0 ∨ (0 ≤ t ∧ 32 ≤ t) by omega) with h | ⟨h1, h2⟩
    all_goals
      clear e
      go_enter Tryz.func78, Tryz.ntmps78
      go_wp2_with fail
      exact bodyPost_ret (v := .agg #[.string (T []), .int .i64 0, .int .i64 0, .bool false]) (by simp [results, Tryz.results78, go_sem]; rfl) rfl ⟨rfl, alloc_one _ _⟩
theorem TBits_any (t : Int) (w : World) : Calls Tryz.prog 81 #[.int .i64 t] w fun e w' => e = .returned (.int .i64 ((Ty.kd t).bits : Int)) ∧ Below w.heap.size w w' := by
  have C := Lib.hid (of_any t w)
  generalize (Ty.kd t).name = nm at *
  generalize (Ty.kd t).size = sz at *
  generalize (Ty.kd t).bits = bt at *
  generalize (Ty.kd t).sgn = sg at *
  have hfd : ∀ w : World, (Instr.field 116 (.agg #[.string (T nm), .int .i64 (sz : Int), .int .i64 (bt : Int), .bool sg]) 2).run Tryz.prog w = .ok (.int .i64 (bt : Int)) w := fun _ => by kernel_rfl
  go_enter Tryz.func81, Tryz.ntmps81
  go_wp2_with fail
  refine (C.out).mono ?_
  rintro e w1 ⟨rfl, b1⟩
  go_wp2_with fail
  go_ret
  exact ⟨rfl, b1⟩
theorem kd_named (t : Int) : (Ty.kd t).name ≠ [] ∨ Ty.kd t = Ty.kd0 := by
  rcases Ty.kd_cases t with h | ⟨_, h⟩
  · left
    rcases h with rfl | rfl | rfl | rfl | rfl | rfl | rfl | rfl | rfl | rfl | rfl <;> decide
  · exact .inr h
/-- Is the type known? -/
def knownB (t : Int) : Bool := !(Ty.kd t).name.isEmpty
set_option maxHeartbeats 1000000 in
theorem TKnown_any (t : Int) (w : World) : Calls Tryz.prog 57 #[.int .i64 t] w fun e w' => e = .returned (.bool (knownB t)) ∧ Below w.heap.size w w' := by
  have C := Lib.hid (of_any t w)
  unfold knownB
  rcases kd_named t with h | h
  · generalize (Ty.kd t).name = nm at *
    generalize (Ty.kd t).size = sz at *
    generalize (Ty.kd t).bits = bt at *
    generalize (Ty.kd t).sgn = sg at *
    have h1 : nm.isEmpty = false := by simpa using h
    rw [h1]
    have h2 := T_toList nm
    have h3 : T nm ≠ T [] := T_ne h
    clear h
    go_enter Tryz.func57, Tryz.ntmps57
    go_wp2_with fail
    refine (C.out).mono ?_
    rintro e w1 ⟨rfl, b1⟩
    go_wp2_with fail
    go_ret
    exact ⟨rfl, b1⟩
  · rw [h] at C ⊢
    unfold Ty.kd0 at C ⊢
    dsimp only at C ⊢
    rw [show T [] = (⟨#[]⟩ : ByteArray) from rfl] at C
    go_enter Tryz.func57, Tryz.ntmps57
    go_wp2_with fail
    refine (C.out).mono ?_
    rintro e w1 ⟨rfl, b1⟩
    go_wp2_with fail
    go_ret
    exact ⟨rfl, b1⟩
end Go.Proofs.YtbmocffnnlfnjaaGreat
/-
  Walks: types.Limits, ByName.
  Conditions: none.
-/
namespace Go.Proofs.YtbmocffnnlfnjaaGreat
set_option linter.unusedVariables false
set_option linter.unusedSimpArgs false
open Go.RowKit
def LimPost (p : Int × Int × Bool) (w : World) (e : Ending) (w' : World) : Prop := e = .returned (.tuple #[.int .i64 p.1, .int .i64 p.2.1, .bool p.2.2]) ∧ Below w.heap.size w w'
theorem lim_mk {p : Int × Int × Bool} {w w' : World} {a b : Int} {x : Bool} (h : p = (a, b, x)) (hb : Below w.heap.size w w') : LimPost p w (.returned (.tuple #[.int .i64 a, .int .i64 b, .bool x])) w' := by
  subst h; exact ⟨rfl, hb⟩
set_option maxRecDepth 100000 in
set_option maxHeartbeats 4000000 in
theorem Limits_any (t : Int) (w : World) : Calls Tryz.prog 55 #[.int .i64 t] w (LimPost (Ty.limS t) w) := by
  have C := of_any t w
  have hl : Ty.limS t = if (Ty.kd t).bits = 0 then (0, 0, false) else if (Ty.kd t).sgn = true then (-((2 ^ ((Ty.kd t).bits - 1) : Nat) : Int), ((2 ^ ((Ty.kd t).bits - 1) : Nat) : Int) - 1, true) else (0, ((2 ^ (Ty.kd t).bits : Nat) : Int) - 1, true) := rfl
  have hc : (Ty.kd t).bits = 0 ∨ ((Ty.kd t).sgn = true ∧ ((Ty.kd t).bits = 8 ∨ (Ty.kd t).bits = 16 ∨ (Ty.kd t).bits = 32 ∨ (Ty.kd t).bits = 64)) ∨ ((Ty.kd t).sgn = false ∧ ((Ty.kd t).bits = 1 ∨ (Ty.kd t).bits = 8 ∨ (Ty.kd t).bits = 16 ∨ (Ty.kd t).bits = 32)) := by
    rcases Ty.kd_cases t with h | ⟨_, h⟩
    · rcases h with rfl | rfl | rfl | rfl | rfl | rfl | rfl | rfl | rfl | rfl | rfl <;> decide
    · rw [h]; exact .inl rfl
  generalize (Ty.kd t).name = nm at *
  generalize (Ty.kd t).size = sz at *
  generalize (Ty.kd t).bits = bt at *
  generalize (Ty.kd t).sgn = sg at *
  rcases hc with rfl | ⟨rfl, rfl | rfl | rfl | rfl⟩ | ⟨rfl, rfl | rfl | rfl | rfl⟩
  all_goals
    have HL := Lib.hid hl
    clear hl
    replace C := Lib.hid C
    go_enter Tryz.func55, Tryz.ntmps55
    go_wp2_with fail
    refine (C.out).mono ?_
    rintro e w1 ⟨rfl, b1⟩
    go_wp2_with fail
  all_goals first
    | (go_ret3; exact lim_mk (by rw [HL.out]; rfl) (b1.alloc b1.size _))
    | (go_quiet (fail); go_wp2_with fail; go_ret3; exact lim_mk (by rw [HL.out]; rfl) (below_drewN (b1.alloc b1.size _) _))
end Go.Proofs.YtbmocffnnlfnjaaGreat
/-
  Walks: what the reference knows of a type.
  Conditions: none.
-/
namespace Go.Proofs.YtbmocffnnlfnjaaGreat
set_option linter.unusedVariables false
set_option linter.unusedSimpArgs false
open Go.RowKit
theorem not_num {t : Int} (h : t ∉ Ty.nums) : (t == 1) = false ∧ (t == 2) = false ∧ (t == 3) = false ∧ (t == 4) = false ∧ (t == 5) = false ∧ (t == 6) = false ∧ (t == 7) = false ∧ (t == 9) = false ∧ (t == 10) = false ∧ (t == 15) = false ∧ (t == 21) = false := by
  unfold Ty.nums at h
  simp only [List.mem_cons, List.not_mem_nil, or_false, not_or] at h
  simp only [beq_eq_false_iff_ne, ne_eq]
  exact h
set_option maxRecDepth 100000 in
set_option maxHeartbeats 4000000 in
theorem RName_any (t : Int) (w : World) : Calls Tryz.prog 85 #[.int .i64 t] w fun e w' => e = .returned (.string (T (Ty.kd t).name)) ∧ w = w' := by
  rcases Ty.kd_cases t with h | ⟨hn, h⟩
  · rcases h with rfl | rfl | rfl | rfl | rfl | rfl | rfl | rfl | rfl | rfl | rfl
    all_goals
      go_enter Tryz.func85, Tryz.ntmps85
      go_wp2_with fail
      go_ret
      exact ⟨rfl, rfl⟩
  · rw [h]
    obtain ⟨q1, q2, q3, q4, q5, q6, q7, q8, q9, q10, q11⟩ := not_num hn
    clear h hn
    go_enter Tryz.func85, Tryz.ntmps85
    go_wp2_with fail
    go_ret
    exact ⟨rfl, rfl⟩
set_option maxRecDepth 100000 in
set_option maxHeartbeats 4000000 in
theorem RSize_any (t : Int) (w : World) : Calls Tryz.prog 90 #[.int .i64 t] w fun e w' => e = .returned (.int .i64 ((Ty.kd t).size : Int)) ∧ w = w' := by
  rcases Ty.kd_cases t with h | ⟨hn, h⟩
  · rcases h with rfl | rfl | rfl | rfl | rfl | rfl | rfl | rfl | rfl | rfl | rfl
    all_goals
      go_enter Tryz.func90, Tryz.ntmps90
      go_wp2_with fail
      go_ret
      exact ⟨rfl, rfl⟩
  · rw [h]
    obtain ⟨q1, q2, q3, q4, q5, q6, q7, q8, q9, q10, q11⟩ := not_num hn
    clear h hn
    go_enter Tryz.func90, Tryz.ntmps90
    go_wp2_with fail
    go_ret
    exact ⟨rfl, rfl⟩
set_option maxRecDepth 100000 in
set_option maxHeartbeats 4000000 in
theorem RSigned_any (t : Int) (w : World) : Calls Tryz.prog 84 #[.int .i64 t] w fun e w' => e = .returned (.bool (Ty.kd t).sgn) ∧ w = w' := by
  rcases Ty.kd_cases t with h | ⟨hn, h⟩
  · rcases h with rfl | rfl | rfl | rfl | rfl | rfl | rfl | rfl | rfl | rfl | rfl
    all_goals
      go_enter Tryz.func84, Tryz.ntmps84
      go_wp2_with fail
      go_ret
      exact ⟨rfl, rfl⟩
  · rw [h]
    obtain ⟨q1, q2, q3, q4, q5, q6, q7, q8, q9, q10, q11⟩ := not_num hn
    clear h hn
    go_enter Tryz.func84, Tryz.ntmps84
    go_wp2_with fail
    go_ret
    exact ⟨rfl, rfl⟩
set_option maxHeartbeats 4000000 in
theorem RTBits_any (t : Int) (w : World) : Calls Tryz.prog 69 #[.int .i64 t] w fun e w' => e = .returned (.int .i64 ((Ty.kd t).bits : Int)) ∧ w = w' := by
  have C := RSize_any t w
  by_cases h1 : t = 1
  · subst h1
    clear C
    go_enter Tryz.func69, Tryz.ntmps69
    go_wp2_with fail
    go_ret
    exact ⟨rfl, rfl⟩
  · have h2 : (t == 1) = false := by rw [beq_eq_false_iff_ne]; exact h1
    have h3 : (Ty.kd t).bits = 8 * (Ty.kd t).size ∧ (Ty.kd t).size ≤ 8 := by
      rcases Ty.kd_cases t with h | ⟨hn, h⟩
      · rcases h with rfl | rfl | rfl | rfl | rfl | rfl | rfl | rfl | rfl | rfl | rfl
        · exact absurd rfl h1
        all_goals decide
      · rw [h]; decide
    obtain ⟨h3, h4⟩ := h3
    rw [h3]
    generalize (Ty.kd t).size = sz at *
    replace C := Lib.hid C
    clear h1 h3
    go_enter Tryz.func69, Tryz.ntmps69
    go_wp2_with fail
    refine (C.out).mono ?_
    rintro e _ ⟨rfl, rfl⟩
    go_wp2_with fail
    go_ret
    exact ⟨ret_int (by omega), rfl⟩
theorem RKnown_any (t : Int) (w : World) : Calls Tryz.prog 64 #[.int .i64 t] w fun e w' => e = .returned (.bool (knownB t)) ∧ w = w' := by
  have C := Lib.hid (RName_any t w)
  unfold knownB
  generalize (Ty.kd t).name = nm at *
  have e1 := T_toList nm
  go_enter Tryz.func64, Tryz.ntmps64
  go_wp2_with fail
  refine (C.out).mono ?_
  rintro e _ ⟨rfl, rfl⟩
  go_wp2_with fail
  go_ret
  exact ⟨rfl, rfl⟩
/-- The loop's number behind i rounds. -/
theorem ones_step (i : Nat) (h : i < 63) : 2 * (((2 ^ i : Nat) : Int) - 1) + 1 = ((2 ^ (i + 1) : Nat) : Int) - 1 := by
  rw [Nat.pow_succ]; omega
set_option maxRecDepth 100000 in
set_option maxHeartbeats 4000000 in
theorem RLimits_any (t : Int) (w : World) : Calls Tryz.prog 62 #[.int .i64 t] w fun e w' => e = .returned (.tuple #[.int .i64 (Ty.limS t).1, .int .i64 (Ty.limS t).2.1, .bool (Ty.limS t).2.2]) ∧ w = w' := by
  have C1 := RTBits_any t w
  have C2 := RSigned_any t w
  have hl : Ty.limS t = if (Ty.kd t).bits = 0 then (0, 0, false) else if (Ty.kd t).sgn = true then (-((2 ^ ((Ty.kd t).bits - 1) : Nat) : Int), ((2 ^ ((Ty.kd t).bits - 1) : Nat) : Int) - 1, true) else (0, ((2 ^ (Ty.kd t).bits : Nat) : Int) - 1, true) := rfl
  have hc : (Ty.kd t).bits = 0 ∨ ((Ty.kd t).sgn = true ∧ 1 ≤ (Ty.kd t).bits ∧ (Ty.kd t).bits ≤ 64) ∨ ((Ty.kd t).sgn = false ∧ 1 ≤ (Ty.kd t).bits ∧ (Ty.kd t).bits ≤ 32) := by
    rcases Ty.kd_cases t with h | ⟨_, h⟩
    · rcases h with rfl | rfl | rfl | rfl | rfl | rfl | rfl | rfl | rfl | rfl | rfl <;> decide
    · rw [h]; exact .inl rfl
  generalize (Ty.kd t).bits = bt at *
  generalize (Ty.kd t).sgn = sg at *
  replace C1 := Lib.hid C1; replace C2 := Lib.hid C2
  rcases hc with rfl | ⟨rfl, hb1, hb2⟩ | ⟨rfl, hb1, hb2⟩
  · have HL := Lib.hid hl; clear hl
    go_enter Tryz.func62, Tryz.ntmps62
    go_wp2_with fail
    refine (C1.out).mono ?_
    rintro e _ ⟨rfl, rfl⟩
    go_wp2_with fail
    go_ret3
    exact ⟨by rw [HL.out]; rfl, rfl⟩
  · rw [if_neg (by omega), if_pos rfl] at hl
    have HL := Lib.hid hl; clear hl
    obtain ⟨n, rfl⟩ : ∃ n, bt = n + 1 := ⟨bt - 1, by omega⟩
    go_enter Tryz.func62, Tryz.ntmps62
    go_wp2_with fail
    refine (C1.out).mono ?_
    rintro e _ ⟨rfl, rfl⟩
    go_wp2_with fail
    refine (C2.out).mono ?_
    rintro e _ ⟨rfl, rfl⟩
    go_wp2_with fail
    go_loop [6, 7] (fun v i => ∃ k : Nat, k ≤ n ∧ i = .int .i64 k ∧ v = .int .i64 (((2 ^ k : Nat) : Int) - 1)) (fun _ i => n - (intOf i).toNat)
    case atStart => exact ⟨0, by omega, rfl, rfl⟩
    case round =>
      obtain ⟨k, hk, rfl, rfl⟩ := hrel
      have hp : 2 ^ k ≤ 2 ^ 63 := Nat.pow_le_pow_right (by decide) (by omega)
      have hp1 : 1 ≤ 2 ^ k := Nat.one_le_two_pow
      by_cases hlt : k < n
      · have hst := ones_step k (by omega)
        have hp2 : 2 ^ k ≤ 2 ^ 62 := Nat.pow_le_pow_right (by decide) (by omega)
        generalize 2 ^ k = q at *
        have HS := Lib.hid hst; clear hst
        go_wp2_with fail
        go_round
        case rel => exact ⟨k + 1, by omega, by go_num, by rw [← HS.out]⟩
        case measure => simp [intOf] <;> omega
      · obtain rfl : k = n := by omega
        have HE : Hid (Ty.limS t = (-((2 ^ k : Nat) : Int), ((2 ^ k : Nat) : Int) - 1, true)) := Lib.hid HL.out
        generalize 2 ^ k = q at *
        go_wp2_with fail
        refine (C2.out).mono ?_
        rintro e _ ⟨rfl, rfl⟩
        go_wp2_with fail
        go_ret3
        refine ⟨?_, rfl⟩
        rw [HE.out]
        show Ending.returned (.tuple #[.int .i64 (-((q : Int) - 1) - 1), .int .i64 ((q : Int) - 1), .bool true]) = _
        rw [show -((q : Int) - 1) - 1 = -(q : Int) by omega]
  · rw [if_neg (by omega), if_neg (by decide)] at hl
    have HL := Lib.hid hl; clear hl
    have hbz : ((bt : Int) == 0) = false := by rw [beq_eq_false_iff_ne]; omega
    go_enter Tryz.func62, Tryz.ntmps62
    go_wp2_with fail
    refine (C1.out).mono ?_
    rintro e _ ⟨rfl, rfl⟩
    go_wp2_with fail
    refine (C2.out).mono ?_
    rintro e _ ⟨rfl, rfl⟩
    go_wp2_with fail
    go_loop [6, 7] (fun v i => ∃ k : Nat, k ≤ bt ∧ i = .int .i64 k ∧ v = .int .i64 (((2 ^ k : Nat) : Int) - 1)) (fun _ i => bt - (intOf i).toNat)
    case atStart => exact ⟨0, by omega, rfl, rfl⟩
    case round =>
      obtain ⟨k, hk, rfl, rfl⟩ := hrel
      have hp : 2 ^ k ≤ 2 ^ 63 := Nat.pow_le_pow_right (by decide) (by omega)
      have hp1 : 1 ≤ 2 ^ k := Nat.one_le_two_pow
      by_cases hlt : k < bt
      · have hst := ones_step k (by omega)
        have hp2 : 2 ^ k ≤ 2 ^ 62 := Nat.pow_le_pow_right (by decide) (by omega)
        generalize 2 ^ k = q at *
        have HS := Lib.hid hst; clear hst
        go_wp2_with fail
        go_round
        case rel => exact ⟨k + 1, by omega, by go_num, by rw [← HS.out]⟩
        case measure => simp [intOf] <;> omega
      · obtain rfl : k = bt := by omega
        have HE : Hid (Ty.limS t = (0, ((2 ^ k : Nat) : Int) - 1, true)) := Lib.hid HL.out
        generalize 2 ^ k = q at *
        go_wp2_with fail
        refine (C2.out).mono ?_
        rintro e _ ⟨rfl, rfl⟩
        go_wp2_with fail
        go_ret3
        exact ⟨by rw [HE.out]; rfl, rfl⟩
end Go.Proofs.YtbmocffnnlfnjaaGreat
/-
  Walks: octet.there, octet.Put.
  Conditions: none.
-/
namespace Go.Proofs.YtbmocffnnlfnjaaGreat
set_option linter.unusedVariables false
set_option linter.unusedSimpArgs false
open Go.RowKit
theorem there_yes (x : Int) (w : World) (h1 : 1 ≤ x) (h2 : x ≤ 8) : Calls Tryz.prog 126 #[.int .i64 x] w fun e w' => e = .returned (.bool true) ∧ w = w' := by
  go_enter Tryz.func126, Tryz.ntmps126
  go_wp2
  go_ret
  exact ⟨by simp [h2], rfl⟩
theorem there_no (x : Int) (w : World) (h : ¬ (1 ≤ x ∧ x ≤ 8)) : Calls Tryz.prog 126 #[.int .i64 x] w fun e w' => e = .returned (.bool false) ∧ w = w' := by
  by_cases h1 : 1 ≤ x
  · have h2 : ¬ x ≤ 8 := fun h2 => h ⟨h1, h2⟩
    clear h
    go_enter Tryz.func126, Tryz.ntmps126
    go_wp2
    all_goals
      go_ret
      exact ⟨by simp <;> omega, rfl⟩
  · clear h
    go_enter Tryz.func126, Tryz.ntmps126
    go_wp2
    all_goals
      go_ret
      exact ⟨by simp <;> omega, rfl⟩

theorem pow_shift (k : Nat) : (2 : Int) ^ (8 * k) = ((256 ^ k : Nat) : Int) := by
  rw [Int.pow_mul]; simp
theorem byte_shift (m j : Nat) : ((m : Int) / 2 ^ (8 * j)) % 256 = ((UInt8.ofNat (m / 256 ^ j)).toNat : Int) := by
  rw [pow_shift, ← Int.natCast_ediv, UInt8.toNat_ofNat']
  simp
end Go.Proofs.YtbmocffnnlfnjaaGreat
/-
  Walks: octet.Get.
  Conditions: none.
-/
namespace Go.Proofs.YtbmocffnnlfnjaaGreat
set_option linter.unusedVariables false
set_option linter.unusedSimpArgs false
open Go.RowKit
set_option maxHeartbeats 400000 in
theorem Get_arg {A : Option Addr} {n c : Nat} (x p : Int) (w : World) (h : ¬ (1 ≤ x ∧ x ≤ 8) ∨ p < 0 ∨ (n : Int) < p) :
    Calls Tryz.prog 121 #[.slice A n c, .int .i64 p, .int .i64 x] w fun e w' => e = .returned (.tuple #[.int .u64 0, .int .i64 1]) ∧ w = w' := by
  by_cases hx : 1 ≤ x ∧ x ≤ 8
  · have h' : p < 0 ∨ (n : Int) < p := h.resolve_left (fun h => h hx)
    clear h
    obtain ⟨h1, h2⟩ := hx
    by_cases hp : p < 0
    · go_enter Tryz.func121, Tryz.ntmps121
      go_wp2_with (go_at_call 126; refine (there_yes _ _ h1 h2).mono ?_; rintro e w' ⟨rfl, rfl⟩)
      go_ret2
      exact ⟨rfl, rfl⟩
    · have hq : (n : Int) < p := h'.resolve_left hp
      clear h'
      go_enter Tryz.func121, Tryz.ntmps121
      go_wp2_with (go_at_call 126; refine (there_yes _ _ h1 h2).mono ?_; rintro e w' ⟨rfl, rfl⟩)
      go_ret2
      exact ⟨rfl, rfl⟩
  · clear h
    go_enter Tryz.func121, Tryz.ntmps121
    go_wp2_with (go_at_call 126; refine (there_no _ _ hx).mono ?_; rintro e w' ⟨rfl, rfl⟩)
    go_ret2
    exact ⟨rfl, rfl⟩
set_option maxHeartbeats 400000 in
theorem Get_short {A : Option Addr} {n c : Nat} (x p : Int) (w : World) (h1 : 1 ≤ x) (h2 : x ≤ 8) (h3 : 0 ≤ p) (h4 : p ≤ (n : Int)) (hn : n ≤ 9223372036854775807) (h : (n : Int) - p < x) :
    Calls Tryz.prog 121 #[.slice A n c, .int .i64 p, .int .i64 x] w fun e w' => e = .returned (.tuple #[.int .u64 0, .int .i64 2]) ∧ w = w' := by
  go_enter Tryz.func121, Tryz.ntmps121
  go_wp2_with (go_at_call 126; refine (there_yes _ _ h1 h2).mono ?_; rintro e w' ⟨rfl, rfl⟩)
  go_ret2
  exact ⟨rfl, rfl⟩
theorem or_step {v a j : Nat} (hv : v < 256 ^ j) (ha : a < 256) (hj : j < 8) : bits .or .u64 (v : Int) (IntKind.u64.wrap ((a : Int) * 2 ^ (8 * j))) = ((v + a * 256 ^ j : Nat) : Int) := by
  have hp : 256 ^ j * 256 ≤ 18446744073709551616 := by
    rw [← Nat.pow_succ]
    exact Nat.le_trans (Nat.pow_le_pow_right (by decide) (show j + 1 ≤ 8 by omega)) (by decide)
  have h1 : a * 256 ^ j < 256 ^ j * 256 := by rw [Nat.mul_comm]; exact Nat.mul_lt_mul_of_pos_left ha (Nat.pow_pos (by decide))
  have h2 : 256 ^ j ≤ 256 ^ j * 256 := Nat.le_mul_of_pos_right _ (by decide)
  rw [pow_shift, ← Int.natCast_mul, IntKind.wrap_u64, Int.emod_eq_of_lt (by omega) (by omega), u64_or_nat _ _ (by omega) (by omega), Nat.or_comm, nat_join (8 * j), Nat.add_comm]
  · rw [Nat.pow_mul]; exact Nat.mul_mod_left _ _
  · rw [Nat.pow_mul]; exact hv
set_option maxHeartbeats 1000000 in
theorem Get_ok {A : Option Addr} {n c B : Nat} {l : List UInt8} (k p : Nat) (w : World) (hb : RB w B A n c l) (h1 : 1 ≤ k) (h2 : k ≤ 8) (h : p + k ≤ n) :
    Calls Tryz.prog 121 #[.slice A n c, .int .i64 (p : Int), .int .i64 (k : Int)] w fun e w' => e = .returned (.tuple #[.int .u64 (Oct.le (Oct.cut l p k) : Int), .int .i64 0]) ∧ w = w' := by
  have hn := hb.lt
  have hl := hb.len
  obtain ⟨b, o, rfl, hbB, hc⟩ := hb.at_ (by omega)
  have HL := Lib.hid hl; clear hl
  clear hb
  go_enter Tryz.func121, Tryz.ntmps121
  go_wp2_with (go_at_call 126; refine (there_yes _ _ (by omega) (by omega)).mono ?_; rintro e w' ⟨rfl, rfl⟩)
  go_loop [8, 32] (fun v i => ∃ j : Nat, j ≤ k ∧ i = .int .i64 j ∧ v = .int .u64 (Oct.le (Oct.cut l p j) : Int)) (fun _ i => k - (intOf i).toNat)
  case atStart => exact ⟨0, Nat.zero_le _, rfl, by rw [Oct.cut_zero]; rfl⟩
  case round =>
    obtain ⟨j, hj, rfl, rfl⟩ := hrel
    by_cases hlt : j < k
    · have hcj := hc (p + j) (by omega)
      have hx := byte_lt (l.getD (p + j) 0)
      generalize hxe : l.getD (p + j) 0 = x at *
      have HX := Lib.hid hxe; clear hxe hc
      generalize hve : Oct.le (Oct.cut l p j) = v at *
      have HV := Lib.hid hve; clear hve
      go_wp2
      go_round
      case rel =>
        refine ⟨j + 1, by omega, by go_num, ?_⟩
        have hl := HL.out
        have h3 : v < 256 ^ j := by rw [← HV.out]; have := Oct.le_lt (Oct.cut l p j); rwa [Oct.cut_length _ _ _ (by omega)] at this
        rw [or_step h3 hx (by omega), Oct.cut_succ _ _ _ (by omega), Oct.le_snoc, Oct.cut_length _ _ _ (by omega), HX.out, HV.out]
      case measure => simp [intOf]; omega
    · obtain rfl : j = k := by omega
      clear hc
      go_wp2
      go_ret2
      exact ⟨rfl, rfl⟩
end Go.Proofs.YtbmocffnnlfnjaaGreat
/-
  Walks: octet.mask, extend, Low, Sign, PutInt, GetInt; Put and Get whole.
  Conditions: none.
-/
namespace Go.Proofs.YtbmocffnnlfnjaaGreat
set_option linter.unusedVariables false
set_option linter.unusedSimpArgs false
open Go.RowKit
set_option maxHeartbeats 400000 in
theorem extend_any (n b : Nat) {x : Int} (hx : x = (b : Int)) (w : World) (hn : n < 18446744073709551616) (h1 : 1 ≤ b) (h2 : b ≤ 64) :
    Calls Tryz.prog 125 #[.int .u64 (n : Int), .int .i64 x] w fun e w' => e = .returned (.int .i64 (Oct.sgn n b)) ∧ w = w' := by
  subst hx
  go_enter Tryz.func125, Tryz.ntmps125
  go_wp2
  go_ret
  exact ⟨ret_int (by unfold wrap64; rw [IntKind.wrap_u64]; exact Oct.extend_val n b h1 h2), rfl⟩


set_option maxHeartbeats 400000 in
theorem Get_any {A : Option Addr} {n c B : Nat} {l : List UInt8} (p x : Int) (w : World) (hb : RB w B A n c l) :
    Calls Tryz.prog 121 #[.slice A n c, .int .i64 p, .int .i64 x] w fun e w' => e = .returned (.tuple #[.int .u64 ((Oct.getS l p x).1 : Int), .int .i64 (Oct.getS l p x).2]) ∧ w = w' := by
  have hl := hb.len
  have hn := hb.lt
  unfold Oct.getS
  by_cases h : 1 ≤ x ∧ x ≤ 8 ∧ 0 ≤ p ∧ p ≤ (l.length : Int)
  · rw [if_pos h]
    obtain ⟨h1, h2, h3, h4⟩ := h
    by_cases hs : (l.length : Int) - p < x
    · rw [if_pos hs]
      exact Get_short x p w h1 h2 h3 (by omega) hn (by omega)
    · rw [if_neg hs]
      obtain ⟨k, rfl⟩ := Int.eq_ofNat_of_zero_le (show 0 ≤ x by omega)
      obtain ⟨q, rfl⟩ := Int.eq_ofNat_of_zero_le h3
      exact Get_ok k q w hb (by omega) (by omega) (by omega)
  · rw [if_neg h]
    exact Get_arg x p w (by rw [← hl]; omega)
theorem getS_lt (l : List UInt8) (p x : Int) : (Oct.getS l p x).1 < 18446744073709551616 := by
  unfold Oct.getS
  split
  · rename_i h
    split
    · decide
    · have h1 := Oct.le_lt (Oct.cut l p.toNat x.toNat)
      rw [Oct.cut_length _ _ _ (by omega)] at h1
      exact Nat.lt_of_lt_of_le h1 (Nat.le_trans (Nat.pow_le_pow_right (by decide) (show x.toNat ≤ 8 by omega)) (by decide))
  · decide
theorem getS_ok {l : List UInt8} {p x : Int} (h : (Oct.getS l p x).2 = 0) : 1 ≤ x ∧ x ≤ 8 := by
  unfold Oct.getS at h
  split at h
  · rename_i h1; exact ⟨h1.1, h1.2.1⟩
  · simp at h
set_option maxHeartbeats 400000 in
theorem GetInt_any {A : Option Addr} {n c B : Nat} {l : List UInt8} (p x : Int) (w : World) (hb : RB w B A n c l) :
    Calls Tryz.prog 120 #[.slice A n c, .int .i64 p, .int .i64 x] w fun e w' => e = .returned (.tuple #[.int .i64 (Oct.getIntS l p x).1, .int .i64 (Oct.getIntS l p x).2]) ∧ w = w' := by
  have hlt := getS_lt l p x
  have hok := getS_ok (l := l) (p := p) (x := x)
  have hg := Get_any p x w hb
  unfold Oct.getIntS
  generalize Oct.getS l p x = y at *
  obtain ⟨y, ye⟩ := y
  dsimp only at *
  have HG := Lib.hid hg; clear hg
  by_cases he : ye = 0
  · rw [if_pos he]
    obtain ⟨h1, h2⟩ := hok he
    clear hok
    subst he
    go_enter Tryz.func120, Tryz.ntmps120
    go_wp2_with fail
    refine HG.out.mono ?_
    rintro e w1 ⟨rfl, rfl⟩
    go_wp2_with fail
    refine (extend_any y (8 * x.toNat) (by omega) _ hlt (by omega) (by omega)).mono ?_
    rintro e w1 ⟨rfl, rfl⟩
    go_wp2_with fail
    go_ret2
    exact ⟨rfl, rfl⟩
  · rw [if_neg he]
    clear hok
    have ht : (ye != 0) = true := by rw [bne_iff_ne]; exact he
    clear he
    go_enter Tryz.func120, Tryz.ntmps120
    go_wp2_with fail
    refine HG.out.mono ?_
    rintro e w1 ⟨rfl, rfl⟩
    go_wp2_with fail
    go_ret2
    exact ⟨rfl, rfl⟩
end Go.Proofs.YtbmocffnnlfnjaaGreat
