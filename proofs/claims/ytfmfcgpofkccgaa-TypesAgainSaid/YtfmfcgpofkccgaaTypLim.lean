/-
  Walks: types.Limits, ByName.
  Conditions: none.
-/
import Derived.Test.YtfmfcgpofkccgaaTypOf
import Derived.Deep.QuietTactic
import Derived.BigQuiet
namespace Go.Proofs.Ytfmfcgpofkccgaa
set_option linter.unusedVariables false
set_option linter.unusedSimpArgs false
open Go.RowKit
def LimPost (p : Int × Int × Bool) (w : World) (e : Ending) (w' : World) : Prop := e = .returned (.tuple #[.int .i64 p.1, .int .i64 p.2.1, .bool p.2.2]) ∧ Below w.heap.size w w'
theorem lim_mk {p : Int × Int × Bool} {w w' : World} {a b : Int} {x : Bool} (h : p = (a, b, x)) (hb : Below w.heap.size w w') : LimPost p w (.returned (.tuple #[.int .i64 a, .int .i64 b, .bool x])) w' := by
  subst h; exact ⟨rfl, hb⟩
set_option maxRecDepth 100000 in
set_option maxHeartbeats 4000000 in
theorem Limits_any (t : Int) (w : World) : Calls Try.prog 23 #[.int .i64 t] w (LimPost (Ty.limS t) w) := by
  have C := of_any t w
  have hl : Ty.limS t = if (Ty.kd t).bits = 0 then (0, 0, false) else if (Ty.kd t).sgn = true then (-((2 ^ ((Ty.kd t).bits - 1) : Nat) : Int), ((2 ^ ((Ty.kd t).bits - 1) : Nat) : Int) - 1, true) else (0, ((2 ^ (Ty.kd t).bits : Nat) : Int) - 1, true) := rfl
  have hc : (Ty.kd t).bits = 0 ∨ ((Ty.kd t).sgn = true ∧ ((Ty.kd t).bits = 8 ∨ (Ty.kd t).bits = 16 ∨ (Ty.kd t).bits = 32 ∨ (Ty.kd t).bits = 64)) ∨ ((Ty.kd t).sgn = false ∧ ((Ty.kd t).bits = 1 ∨ (Ty.kd t).bits = 8 ∨ (Ty.kd t).bits = 16 ∨ (Ty.kd t).bits = 32)) := by
    rcases Ty.kd_cases t with h | ⟨_, h⟩
    · rcases h with rfl | rfl | rfl | rfl | rfl | rfl | rfl | rfl | rfl | rfl | rfl <;> decide
    · rw [h]; exact .inl rfl
  generalize (Ty.kd t).name = nm at *
  generalize (Ty.kd t).size = sz at *
  generalize (Ty.kd t).bits = bt at *
  generalize (Ty.kd t).sgn = sg at *
  rcases hc with rfl | ⟨rfl, rfl | rfl | rfl | rfl⟩ | ⟨rfl, rfl | rfl | rfl | rfl⟩
  all_goals
    have HL := Lib.hid hl
    clear hl
    replace C := Lib.hid C
    go_enter Try.func23, Try.ntmps23
    go_wp2_with fail
    refine (C.out).mono ?_
    rintro e w1 ⟨rfl, b1⟩
    go_wp2_with fail
  all_goals first
    | (go_ret3; exact lim_mk (by rw [HL.out]; rfl) (b1.alloc b1.size _))
    | (go_quiet (fail); go_wp2_with fail; go_ret3; exact lim_mk (by rw [HL.out]; rfl) (below_drewN (b1.alloc b1.size _) _))
/-- The type of a name. -/
def nameS (s : List UInt8) : Int × Bool := if s = [] then (0, false) else match Ty.nums.find? (fun t => (Ty.kd t).name == s) with | some t => (t, true) | none => (0, false)
/-- No type below k has the name. -/
def NoName (s : List UInt8) (k : Nat) : Prop := s = [] ∨ ∀ j : Nat, j < k → (Ty.kd (j : Int)).name ≠ s
theorem nameS_none {s : List UInt8} (h : NoName s 32) : nameS s = (0, false) := by
  unfold nameS
  rcases h with rfl | h
  · rfl
  · by_cases hs : s = []
    · rw [if_pos hs]
    · rw [if_neg hs]
      have : Ty.nums.find? (fun t => (Ty.kd t).name == s) = none := by
        rw [List.find?_eq_none]
        intro t ht
        have h1 : ∃ j : Nat, j < 32 ∧ t = (j : Int) := by
          unfold Ty.nums at ht
          simp only [List.mem_cons, List.not_mem_nil, or_false] at ht
          exact ⟨t.toNat, by omega, by omega⟩
        obtain ⟨j, hj, rfl⟩ := h1
        simpa using h j hj
      rw [this]
theorem nameS_some {s : List UInt8} {k : Nat} (hs : s ≠ []) (h : NoName s k) (hk : k < 32) (he : (Ty.kd (k : Int)).name = s) : nameS s = ((k : Int), true) := by
  have h := h.resolve_left hs
  unfold nameS
  rw [if_neg hs]
  have hm : (k : Int) ∈ Ty.nums := by
    by_cases hm : (k : Int) ∈ Ty.nums
    · exact hm
    · rw [Ty.kd_none hm] at he
      exact absurd he.symm hs
  have : Ty.nums.find? (fun t => (Ty.kd t).name == s) = some (k : Int) := by
    have hall : ∀ t ∈ Ty.nums, t < (k : Int) → ((Ty.kd t).name == s) = false := fun t ht hlt => by
      have h0 : 0 ≤ t := by
        unfold Ty.nums at ht
        simp only [List.mem_cons, List.not_mem_nil, or_false] at ht
        omega
      have := h t.toNat (by omega)
      rw [Int.toNat_of_nonneg h0] at this
      simpa using this
    have hk' : ((Ty.kd (k : Int)).name == s) = true := by simpa using he
    unfold Ty.nums at *
    simp only [List.mem_cons, List.not_mem_nil, or_false] at hm
    simp only [List.mem_cons, List.not_mem_nil, or_false, forall_eq_or_imp, forall_eq] at hall
    obtain ⟨a1, a2, a3, a4, a5, a6, a7, a8, a9, a10, a11⟩ := hall
    rcases hm with e | e | e | e | e | e | e | e | e | e | e
    all_goals
      rw [e] at a1 a2 a3 a4 a5 a6 a7 a8 a9 a10 a11 hk' ⊢
      simp [List.find?_cons, hk', a1, a2, a3, a4, a5, a6, a7, a8, a9, a10]
  rw [this]
set_option maxRecDepth 100000 in
set_option maxHeartbeats 4000000 in
theorem ByName_any (s : List UInt8) (w : World) : Calls Try.prog 26 #[.string (T s)] w fun e w' => e = .returned (.tuple #[.int .i64 (nameS s).1, .bool (nameS s).2]) ∧ Below w.heap.size w w' := by
  have HK := Lib.hid run_kind
  have C := Lib.hid (kinds_any w)
  generalize kcells = K at *
  go_enter Try.func26, Try.ntmps26
  go_wp2_with fail
  refine (C.out).mono ?_
  rintro e w1 ⟨rfl, b1⟩
  go_wp2_with fail
  go_loopw [7] (fun i wr => ∃ k : Nat, k ≤ 32 ∧ i = .int .i64 k ∧ NoName s k ∧ Below w.heap.size w wr) (fun i _ => 32 - (intOf i).toNat)
  case atStart => exact ⟨0, by omega, rfl, .inr fun j hj => absurd hj (by omega), b1⟩
  case round =>
    clear b1
    obtain ⟨k, hk, rfl, hno, bb⟩ := hrel
    have HN := Lib.hid hno; clear hno
    by_cases hlt : k < 32
    · have hr := fun w => HK.out k hlt w
      unfold kc at hr
      have hnx : (Ty.kd (k : Int)).name = s → s ≠ [] → nameS s = ((k : Int), true) := fun h1 h2 => nameS_some h2 HN.out hlt h1
      have hnn : (Ty.kd (k : Int)).name ≠ s ∨ s = [] → NoName s (k + 1) := fun h => by
        rcases h with h | h
        · rcases HN.out with h2 | h2
          · exact .inl h2
          · refine .inr fun j hj => ?_
            rcases Nat.lt_or_ge j k with h3 | h3
            · exact h2 j h3
            · obtain rfl : j = k := by omega
              exact h
        · exact .inl h
      generalize (Ty.kd (k : Int)).name = nm at *
      generalize (Ty.kd (k : Int)).size = sz at *
      generalize (Ty.kd (k : Int)).bits = bt at *
      generalize (Ty.kd (k : Int)).sgn = sg at *
      have HNX := Lib.hid hnx; have HNN := Lib.hid hnn
      clear hnx hnn
      have e1 := T_toList s
      have e2 := T_toList nm
      by_cases h1 : nm = s
      · subst h1
        by_cases h2 : nm = []
        · have HNN2 := Lib.hid (HNN.out (.inr h2))
          subst h2
          go_wp2_with fail
          go_roundw
          case rel => exact ⟨k + 1, by omega, by go_num, HNN2.out, bb.alloc bb.size _⟩
          case measure => simp [intOf] <;> omega
        · have HR := Lib.hid (HNX.out rfl h2)
          have h3 : (nm == []) = false := by simpa using h2
          have h4 : nm.isEmpty = false := by simpa using h2
          clear h2
          go_wp2_with fail
          go_ret2
          exact ⟨by rw [HR.out]; rfl, bb.alloc bb.size _⟩
      · have HNN2 := Lib.hid (HNN.out (.inl h1))
        have h3 : (nm == s) = false := by simpa using h1
        clear h1
        go_wp2_with fail
        go_roundw
        case rel => exact ⟨k + 1, by omega, by go_num, HNN2.out, bb.alloc bb.size _⟩
        case measure => simp [intOf] <;> omega
    · obtain rfl : k = 32 := by omega
      have HR := Lib.hid (nameS_none HN.out)
      go_wp2_with fail
      go_ret2
      exact ⟨by rw [HR.out]; rfl, bb⟩
end Go.Proofs.Ytfmfcgpofkccgaa
