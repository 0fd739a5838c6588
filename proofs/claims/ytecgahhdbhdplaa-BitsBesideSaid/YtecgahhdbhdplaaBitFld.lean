/-
  Layer 29 as plain functions: fields, packed and unpacked.
  Conditions: none.
-/
import Derived.Test.YtecgahhdbhdplaaBitPure
import Derived.Test.YtecgahhdbhdplaaOct
namespace Go.Proofs.Ytecgahhdbhdplaa.Bt
set_option linter.unusedVariables false
set_option linter.unusedSimpArgs false
structure Fld where
  bits : Int
  data : List UInt8
def Fld.zero : Fld := ⟨0, []⟩
theorem bytesS_pos {m : Int} (h1 : 1 ≤ m) (h2 : m ≤ 64) : 1 ≤ bytesS m ∧ bytesS m ≤ 8 ∧ m ≤ 8 * bytesS m ∧ 8 * bytesS m < m + 8 := by
  unfold bytesS
  rw [if_neg (by omega)]
  omega
/-- Is it a field? -/
def fits (f : Fld) : Bool := decide (1 ≤ f.bits ∧ f.bits ≤ 64 ∧ (f.data.length : Int) = bytesS f.bits)
def valS (f : Fld) : Nat × Bool := if fits f = true then (Oct.le f.data, !wideS (Oct.le f.data) f.bits) else (0, false)
def okF (f : Fld) : Bool := (valS f).2
theorem okF_fits {f : Fld} (h : okF f = true) : 1 ≤ f.bits ∧ f.bits ≤ 64 ∧ (f.data.length : Int) = bytesS f.bits ∧ wideS (Oct.le f.data) f.bits = false := by
  unfold okF valS at h
  split at h
  · rename_i h1
    unfold fits at h1
    have h2 := of_decide_eq_true h1
    exact ⟨h2.1, h2.2.1, h2.2.2, by simpa using h⟩
  · cases h
theorem okF_val {f : Fld} (h : okF f = true) : valS f = (Oct.le f.data, true) := by
  have h1 := okF_fits h
  unfold valS
  rw [if_pos (by unfold fits; exact decide_eq_true ⟨h1.1, h1.2.1, h1.2.2.1⟩), h1.2.2.2]
  rfl
/-- The bits of the first k. -/
def sumK (ws : List Int) : Nat → Int
  | 0 => 0
  | k + 1 => sumK ws k + ws.getD k 0
def okW (w : Int) : Bool := decide (1 ≤ w ∧ w ≤ 64)
theorem okW_iff {w : Int} : okW w = true ↔ 1 ≤ w ∧ w ≤ 64 := by unfold okW; exact decide_eq_true_iff
theorem sumK_mono {ws : List Int} (h : ∀ i, i < ws.length → okW (ws.getD i 0) = true) : ∀ k, k ≤ ws.length → (k : Int) ≤ sumK ws k ∧ sumK ws k ≤ 64 * k
  | 0, _ => by simp [sumK]
  | k + 1, hk => by
    have h1 := sumK_mono h k (by omega)
    have h2 := okW_iff.1 (h k (by omega))
    rw [sumK]
    omega
theorem sumK_le {ws : List Int} (h : ∀ i, i < ws.length → okW (ws.getD i 0) = true) : ∀ k m, k + m ≤ ws.length → sumK ws k + m ≤ sumK ws (k + m)
  | k, 0, _ => by simp
  | k, m + 1, hk => by
    have h1 := sumK_le h k m (by omega)
    have h2 := okW_iff.1 (h (k + m) (by omega))
    rw [← Nat.add_assoc, sumK]
    omega
/-- All of them are right. -/
def okAll (ok : List Bool) : Bool := ok.all id
/-- What is wrong of bits in all: ErrArg 1, ErrBig 3. -/
def totS (ws : List Int) (ok : List Bool) : Int × Int := if ok.all id = true then (if 64 < sumK ws ws.length then (0, 3) else (sumK ws ws.length, 0)) else (0, 1)
def bitsOf (l : List Fld) : List Int := l.map (·.bits)
/-- The first k fields, laid down. -/
def packK (l : List Fld) (b : List UInt8) : Nat → List UInt8
  | 0 => b
  | k + 1 => putF (packK l b k) (sumK (bitsOf l) k).toNat (Oct.le (l.getD k Fld.zero).data) (l.getD k Fld.zero).bits.toNat
theorem packK_length (l : List Fld) (b : List UInt8) : ∀ k, (packK l b k).length = b.length
  | 0 => rfl
  | k + 1 => by rw [packK, putF_length, packK_length]
def packS (l : List Fld) : List UInt8 × Int :=
  if (totS (bitsOf l) (l.map okF)).2 = 0 then (packK l (List.replicate (bytesS (totS (bitsOf l) (l.map okF)).1).toNat 0) l.length, 0) else ([], (totS (bitsOf l) (l.map okF)).2)
/-- The field of a width at a place. -/
def fieldS (b : List UInt8) (p : Nat) (w : Int) : Fld := ⟨w, Oct.lb (bytesS w).toNat (lowF b p w.toNat)⟩
def unpK (b : List UInt8) (ws : List Int) : Nat → List Fld
  | 0 => []
  | k + 1 => unpK b ws k ++ [fieldS b (sumK ws k).toNat (ws.getD k 0)]
theorem unpK_length (b : List UInt8) (ws : List Int) : ∀ k, (unpK b ws k).length = k
  | 0 => rfl
  | k + 1 => by rw [unpK, List.length_append, unpK_length]; rfl
def unpackS (b : List UInt8) (ws : List Int) : List Fld × Int :=
  if (totS ws (ws.map okW)).2 = 0 then (if 8 * (b.length : Int) < (totS ws (ws.map okW)).1 then ([], 2) else (unpK b ws ws.length, 0)) else ([], (totS ws (ws.map okW)).2)
theorem all_get {ok : List Bool} (h : ok.all id = true) {i : Nat} (hi : i < ok.length) : ok.getD i false = true := by
  rw [List.all_eq_true] at h
  have := h ok[i] (List.getElem_mem hi)
  simpa [List.getD, hi] using this
theorem all_of {ok : List Bool} (h : ∀ i, i < ok.length → ok.getD i false = true) : ok.all id = true := by
  rw [List.all_eq_true]
  intro x hx
  obtain ⟨i, hi, rfl⟩ := List.getElem_of_mem hx
  have := h i hi
  simpa [List.getD, hi] using this
theorem all_not {ok : List Bool} {i : Nat} (hi : i < ok.length) (h : ok.getD i false = false) : ok.all id = false := by
  cases hb : ok.all id with
  | false => rfl
  | true => rw [all_get hb hi] at h; cases h
theorem bitsOf_getD (l : List Fld) (i : Nat) : (bitsOf l).getD i 0 = (l.getD i Fld.zero).bits := by
  unfold bitsOf
  simp only [List.getD, List.getElem?_map]
  cases l[i]? <;> rfl
theorem okF_getD (l : List Fld) (i : Nat) : (l.map okF).getD i false = okF (l.getD i Fld.zero) := by
  simp only [List.getD, List.getElem?_map]
  cases l[i]? <;> rfl
theorem okW_getD (ws : List Int) (i : Nat) : (ws.map okW).getD i false = okW (ws.getD i 0) := by
  simp only [List.getD, List.getElem?_map]
  cases ws[i]? <;> rfl
end Go.Proofs.Ytecgahhdbhdplaa.Bt
