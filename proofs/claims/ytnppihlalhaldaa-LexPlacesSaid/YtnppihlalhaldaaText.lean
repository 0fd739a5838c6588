/-
  Strings as lists of bytes: cuts, places, sums, under one name.
  Conditions: none.
-/
import Derived.Test.YtnppihlalhaldaaWords
import Derived.Laws.Concat
import Derived.Laws.RangeAny
namespace Go.Proofs.Ytnppihlalhaldaa
set_option linter.unusedVariables false
set_option linter.unusedSimpArgs false
open Go.RowKit
/-- A list of bytes as a string. -/
def T (s : List UInt8) : ByteArray := ⟨s.toArray⟩
theorem T_inj {a b : List UInt8} (h : T a = T b) : a = b := by
  unfold T at h
  injection h with h
  simpa using h
theorem T_ne {a b : List UInt8} (h : a ≠ b) : T a ≠ T b := fun e => h (T_inj e)
theorem toList_loop (bs : ByteArray) : ∀ (d i : Nat) (r : List UInt8), bs.size - i = d → ByteArray.toList.loop bs i r = r.reverse ++ bs.data.toList.drop i := by
  intro d
  induction d with
  | zero =>
    intro i r h
    have h2 : bs.data.toList.length ≤ i := by show bs.data.size ≤ i; have : bs.size = bs.data.size := rfl; omega
    rw [ByteArray.toList.loop, if_neg (by omega), List.drop_of_length_le h2, List.append_nil]
  | succ d ih =>
    intro i r h
    have hi : i < bs.size := by omega
    have hi' : i < bs.data.toList.length := hi
    rw [ByteArray.toList.loop, if_pos hi, ih (i + 1) _ (by omega), List.drop_eq_getElem_cons hi', List.reverse_cons, List.append_assoc]
    congr 2
    rw [List.cons_append, List.nil_append]
    congr 1
    have h3 : bs.get! i = bs[i] := by simp [ByteArray.get!, getElem!_pos, hi]; rfl
    rw [h3]
    rfl
theorem T_toList (s : List UInt8) : (T s).toList = s := by
  have := toList_loop (T s) _ 0 [] rfl
  exact this.trans (by simp [T])
theorem T_size (s : List UInt8) : (T s).size = s.length := by show s.toArray.size = _; simp
theorem T_of (t : ByteArray) : ∃ s, t = T s := ⟨t.data.toList, by cases t; simp [T]⟩
theorem T_get (s : List UInt8) (k : Nat) (h : k < (T s).size) : (T s)[k]'h = s.getD k 0 := by
  have h' : k < s.length := by rw [T_size] at h; exact h
  show s.toArray[k] = _
  simp [List.getD, h']
theorem T_append (a b : List UInt8) : T a ++ T b = T (a ++ b) := by
  apply ByteArray.ext
  simp [T]
theorem T_extract (s : List UInt8) (i j : Nat) : (T s).extract i j = T ((s.take j).drop i) := by
  apply ByteArray.ext
  simp [T, List.extract_toArray, List.drop_take]
theorem run_T_at (s : List UInt8) (kd : IntKind) (z : Int) (k : Nat) (hz : z = (k : Int)) (hk : k < s.length) (w : World) :
    (Instr.index 9 (.string (T s)) (.int kd z)).run Try.prog w = .ok (.int .u8 ((s.getD k 0).toNat : Int)) w := by
  subst hz
  rw [run_index_string w _ _ kd _ Try.underlying9, dif_pos ⟨by omega, by rw [T_size]; exact Int.ofNat_lt.2 hk⟩]
  have e : ((k : Int)).toNat = k := by omega
  simp only [e, T_get]
theorem run_T_add (s t : List UInt8) (h : s.length + t.length ≤ 9223372036854775807) (w : World) : (Op.stringOp .add (T s) (T t)).run Try.prog w = .ok (.string (T (s ++ t))) w := by
  rw [run_string_add_sum w _ _ (by rw [T_size, T_size]; exact h), T_append]
/-- 's[i:j]' -/
theorem run_T_cut (s : List UInt8) (k1 k2 : IntKind) (z1 z2 : Int) (i j : Nat) (h1 : z1 = (i : Int)) (h2 : z2 = (j : Int)) (hij : i ≤ j) (hj : j ≤ s.length) (hs : s.length ≤ 9223372036854775807) (w : World) :
    (Instr.slice 9 (.string (T s)) (some (.int k1 z1)) (some (.int k2 z2)) none).run Try.prog w = .ok (.string (T ((s.take j).drop i))) w := by
  subst h1 h2
  have b1 : ∀ code, (Instr.sliceBound (.int k2 (j : Int)) (T s).size code).run Try.prog w = .ok j w := fun code => by
    rw [run_sliceBound w k2 _ _ code (by omega) (by rw [T_size]; omega)]; congr 1
  have b2 : ∀ code, (Instr.sliceBound (.int k1 (i : Int)) j code).run Try.prog w = .ok i w := fun code => by
    rw [run_sliceBound w k1 _ _ code (by omega) (by omega)]; congr 1
  simp [Instr.slice, run_underlying Try.underlying9, Instr.sliceBounds, b1, b2, T_extract, go_sem]
  intro h
  omega
/-- 's[:j]' -/
theorem run_T_head (s : List UInt8) (k2 : IntKind) (z2 : Int) (j : Nat) (h2 : z2 = (j : Int)) (hj : j ≤ s.length) (w : World) :
    (Instr.slice 9 (.string (T s)) none (some (.int k2 z2)) none).run Try.prog w = .ok (.string (T (s.take j))) w := by
  subst h2
  have b1 : ∀ code, (Instr.sliceBound (.int k2 (j : Int)) (T s).size code).run Try.prog w = .ok j w := fun code => by
    rw [run_sliceBound w k2 _ _ code (by omega) (by rw [T_size]; omega)]; congr 1
  simp [Instr.slice, run_underlying Try.underlying9, Instr.sliceBounds, b1, T_extract, go_sem]
/-- 's[i:]' -/
theorem run_T_rest (s : List UInt8) (k1 : IntKind) (z1 : Int) (i : Nat) (h1 : z1 = (i : Int)) (hi : i ≤ s.length) (w : World) :
    (Instr.slice 9 (.string (T s)) (some (.int k1 z1)) none none).run Try.prog w = .ok (.string (T (s.drop i))) w := by
  subst h1
  have b1 : ∀ code, (Instr.sliceBound (.int k1 (i : Int)) (T s).size code).run Try.prog w = .ok i w := fun code => by
    rw [run_sliceBound w k1 _ _ code (by omega) (by rw [T_size]; omega)]; congr 1
  have e : (T s).extract i (T s).size = T (s.drop i) := by rw [T_extract, T_size, List.take_length]
  simp [Instr.slice, run_underlying Try.underlying9, Instr.sliceBounds, b1, e, go_sem]
end Go.Proofs.Ytnppihlalhaldaa
