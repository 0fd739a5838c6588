/-
  Numbers as bytes, the lowest one first: what layer 1 answers, as plain functions.
  Conditions: none.
-/
namespace Go.Proofs.Ytnppihlalhaldaa.Oct
set_option linter.unusedVariables false
set_option linter.unusedSimpArgs false
/-- Bytes as a number, the lowest one first. -/
def le : List UInt8 → Nat
  | [] => 0
  | c :: l => c.toNat + 256 * le l
/-- A number's k lowest bytes. -/
def lb : Nat → Nat → List UInt8
  | 0, _ => []
  | k + 1, n => lb k n ++ [UInt8.ofNat (n / 256 ^ k)]
theorem lb_length : ∀ k n, (lb k n).length = k
  | 0, _ => rfl
  | k + 1, n => by simp [lb, lb_length k]
theorem le_append : ∀ (a b : List UInt8), le (a ++ b) = le a + 256 ^ a.length * le b
  | [], b => by simp [le]
  | c :: a, b => by
    simp only [List.cons_append, le, List.length_cons, le_append a b, Nat.pow_succ]
    rw [Nat.mul_add, ← Nat.mul_assoc, Nat.add_assoc, Nat.mul_comm 256 (256 ^ a.length)]
theorem le_snoc (a : List UInt8) (c : UInt8) : le (a ++ [c]) = le a + c.toNat * 256 ^ a.length := by
  rw [le_append]; simp [le, Nat.mul_comm]
theorem le_lt : ∀ (l : List UInt8), le l < 256 ^ l.length
  | [] => by simp [le]
  | c :: l => by
    have h1 := le_lt l
    have h2 := c.toNat_lt
    simp only [le, List.length_cons, Nat.pow_succ]
    omega
/-- k bytes from place p on. -/
def cut (l : List UInt8) (p k : Nat) : List UInt8 := (l.drop p).take k
theorem cut_length (l : List UInt8) (p k : Nat) (h : p + k ≤ l.length) : (cut l p k).length = k := by simp [cut]; omega
theorem cut_succ (l : List UInt8) (p k : Nat) (h : p + k < l.length) : cut l p (k + 1) = cut l p k ++ [l.getD (p + k) 0] := by
  unfold cut
  rw [List.take_succ_eq_append_getElem (by simp; omega)]
  simp [List.getD, h]
theorem cut_zero (l : List UInt8) (p : Nat) : cut l p 0 = [] := by simp [cut]
theorem le_lb : ∀ (k n : Nat), le (lb k n) = n % 256 ^ k
  | 0, n => by simp [lb, le, Nat.mod_one]
  | k + 1, n => by
    rw [lb, le_snoc, le_lb k, lb_length, UInt8.toNat_ofNat', show (2 ^ 8 : Nat) = 256 from rfl, Nat.mod_pow_succ (x := n) (b := 256) (k := k), Nat.mul_comm (256 ^ k)]
theorem lb_cons : ∀ (k n : Nat), lb (k + 1) n = UInt8.ofNat n :: lb k (n / 256)
  | 0, n => by simp [lb]
  | k + 1, n => by
    rw [lb, lb_cons k n, List.cons_append]
    congr 1
    rw [lb, Nat.div_div_eq_div_mul, Nat.pow_succ, Nat.mul_comm 256]
theorem lb_le : ∀ (l : List UInt8), lb l.length (le l) = l
  | [] => rfl
  | c :: l => by
    have h := c.toNat_lt
    rw [List.length_cons, lb_cons, le]
    rw [show (c.toNat + 256 * le l) / 256 = le l by omega, lb_le l]
    congr 1
    apply UInt8.toNat_inj.1
    rw [UInt8.toNat_ofNat']
    omega
theorem lb_mod (k n m : Nat) (h : k ≤ m) : lb k (n % 256 ^ m) = lb k n := by
  have h1 := lb_le (lb k (n % 256 ^ m))
  have h2 := lb_le (lb k n)
  rw [lb_length, le_lb] at h1 h2
  rw [← h1, ← h2, Nat.mod_mod_of_dvd _ (Nat.pow_dvd_pow 256 h)]
theorem le_inj {a b : List UInt8} (hl : a.length = b.length) (h : le a = le b) : a = b := by
  rw [← lb_le a, ← lb_le b, hl, h]

end Go.Proofs.Ytnppihlalhaldaa.Oct
