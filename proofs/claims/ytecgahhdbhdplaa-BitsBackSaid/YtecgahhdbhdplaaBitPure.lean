/-
  Layer 29 as plain functions: bits at a place of bytes.
  Conditions: none.
-/
import Derived.Test.YtecgahhdbhdplaaProg
namespace Go.Proofs.Ytecgahhdbhdplaa.Bt
set_option linter.unusedVariables false
set_option linter.unusedSimpArgs false
def bytesS (n : Int) : Int := if n < 1 then 0 else (n - 1) / 8 + 1
/-- What is wrong of n bits at a place of len bytes. -/
def roomS (len : Nat) (at_ n : Int) : Int := if n < 1 ∨ 64 < n ∨ at_ < 0 then 1 else if 8 * (len : Int) < at_ ∨ 8 * (len : Int) - at_ < n then 2 else 0
def bt (l : List UInt8) (i : Nat) : Nat := (l.getD (i / 8) 0).toNat / 2 ^ (i % 8) % 2
theorem bt_lt (l : List UInt8) (i : Nat) : bt l i < 2 := Nat.mod_lt _ (by decide)
/-- The number of n bits, from the lowest one up. -/
def lowF (l : List UInt8) (p : Nat) : Nat → Nat
  | 0 => 0
  | n + 1 => lowF l p n + bt l (p + n) * 2 ^ n
theorem lowF_lt (l : List UInt8) (p : Nat) : ∀ n, lowF l p n < 2 ^ n
  | 0 => by simp [lowF]
  | n + 1 => by
    have h1 := lowF_lt l p n
    have h2 := bt_lt l (p + n)
    have h3 : bt l (p + n) * 2 ^ n ≤ 1 * 2 ^ n := Nat.mul_le_mul_right _ (by omega)
    rw [lowF, Nat.pow_succ]
    omega
/-- The same, from the highest one down: k bits of them. -/
def upF (l : List UInt8) (p n : Nat) : Nat → Nat
  | 0 => 0
  | k + 1 => 2 * upF l p n k + bt l (p + (n - 1 - k))
theorem upF_lowF (l : List UInt8) (p n : Nat) : ∀ k, k ≤ n → lowF l p n = lowF l p (n - k) + 2 ^ (n - k) * upF l p n k
  | 0, _ => by simp [upF]
  | k + 1, h => by
    rw [upF_lowF l p n k (by omega), upF]
    have e : n - k = (n - (k + 1)) + 1 := by omega
    rw [e, lowF, Nat.pow_succ, show n - 1 - k = n - (k + 1) by omega, Nat.mul_add]
    rw [show 2 ^ (n - (k + 1)) * (2 * upF l p n k) = 2 ^ (n - (k + 1)) * 2 * upF l p n k by rw [Nat.mul_assoc], Nat.mul_comm (bt l (p + (n - (k + 1)))) _]
    omega
theorem upF_all (l : List UInt8) (p n : Nat) : upF l p n n = lowF l p n := by
  have := upF_lowF l p n n (Nat.le_refl _)
  simp [lowF] at this
  exact this.symm
theorem upF_lt (l : List UInt8) (p n : Nat) : ∀ k, upF l p n k < 2 ^ k
  | 0 => by simp [upF]
  | k + 1 => by
    have h1 := upF_lt l p n k
    have h2 := bt_lt l (p + (n - 1 - k))
    rw [upF, Nat.pow_succ]
    omega
def getS (l : List UInt8) (at_ n : Int) : Nat × Int := if roomS l.length at_ n = 0 then (lowF l at_.toNat n.toNat, 0) else (0, roomS l.length at_ n)
/-- A byte with one bit set, or not. -/
def sb (c : UInt8) (j : Nat) (x : Bool) : UInt8 := UInt8.ofNat (if x then c.toNat ||| 2 ^ j else c.toNat &&& (255 - 2 ^ j))
def setB (l : List UInt8) (i : Nat) (x : Bool) : List UInt8 := l.set (i / 8) (sb (l.getD (i / 8) 0) (i % 8) x)
/-- The n lowest bits of v laid at p. -/
def putF (l : List UInt8) (p v : Nat) : Nat → List UInt8
  | 0 => l
  | n + 1 => setB (putF l p v n) (p + n) (v.testBit n)
theorem putF_length (l : List UInt8) (p v : Nat) : ∀ n, (putF l p v n).length = l.length
  | 0 => rfl
  | n + 1 => by rw [putF, setB, List.length_set, putF_length]
def wideS (v : Nat) (n : Int) : Bool := decide (n < 64) && v / 2 ^ n.toNat != 0
def putS (l : List UInt8) (at_ n : Int) (v : Nat) : List UInt8 × Int :=
  if roomS l.length at_ n = 1 then ([], 1) else if wideS v n = true then ([], 9) else if roomS l.length at_ n = 0 then (putF l at_.toNat v n.toNat, 0) else ([], roomS l.length at_ n)
end Go.Proofs.Ytecgahhdbhdplaa.Bt
