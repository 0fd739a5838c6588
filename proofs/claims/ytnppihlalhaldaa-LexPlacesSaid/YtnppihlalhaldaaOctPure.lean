/-
  Layer 1 as plain functions: the lowest bits, signs, digits.
  Conditions: none.
-/
import Derived.Test.YtnppihlalhaldaaOct
namespace Go.Proofs.Ytnppihlalhaldaa.Oct
set_option linter.unusedVariables false
set_option linter.unusedSimpArgs false
/-- The lowest b bits as a number with a sign. -/
def sgn (n b : Nat) : Int := if n % 2 ^ b < 2 ^ (b - 1) then ((n % 2 ^ b : Nat) : Int) else ((n % 2 ^ b : Nat) : Int) - 2 ^ b
theorem two_half (b : Nat) (h : 1 ≤ b) : 2 ^ b = 2 * 2 ^ (b - 1) := by
  obtain ⟨k, rfl⟩ : ∃ k, b = k + 1 := ⟨b - 1, by omega⟩
  rw [Nat.add_sub_cancel, Nat.pow_succ, Nat.mul_comm]
theorem pow_int (b : Nat) : (2 : Int) ^ b = ((2 ^ b : Nat) : Int) := by simp
theorem sgn_mod (n b : Nat) : sgn (n % 2 ^ b) b = sgn n b := by unfold sgn; rw [Nat.mod_mod]
theorem sgn_bounds (n b : Nat) (h : 1 ≤ b) : -((2 ^ (b - 1) : Nat) : Int) ≤ sgn n b ∧ sgn n b < ((2 ^ (b - 1) : Nat) : Int) := by
  have h1 := two_half b h
  have h2 : n % 2 ^ b < 2 ^ b := Nat.mod_lt _ (Nat.pow_pos (by decide))
  unfold sgn
  rw [pow_int]
  split <;> omega
/-- Modulo 2^b it is the number. -/
theorem sgn_emod (n b : Nat) : sgn n b % ((2 ^ b : Nat) : Int) = ((n % 2 ^ b : Nat) : Int) := by
  have hp : 0 < 2 ^ b := Nat.pow_pos (by decide)
  have h2 : n % 2 ^ b < 2 ^ b := Nat.mod_lt _ hp
  unfold sgn
  rw [pow_int]
  split
  · exact Int.emod_eq_of_lt (by omega) (by omega)
  · rw [Int.sub_emod_right]
    exact Int.emod_eq_of_lt (by omega) (by omega)
/-- Of a number with a sign that fits. -/
theorem sgn_of (z : Int) (b : Nat) (h : 1 ≤ b) (h1 : -((2 ^ (b - 1) : Nat) : Int) ≤ z) (h2 : z < ((2 ^ (b - 1) : Nat) : Int)) : sgn (z % ((2 ^ b : Nat) : Int)).toNat b = z := by
  have h3 := two_half b h
  have hp : 0 < 2 ^ b := Nat.pow_pos (by decide)
  by_cases hz : z < 0
  · have e : z % ((2 ^ b : Nat) : Int) = z + ((2 ^ b : Nat) : Int) := by
      rw [← Int.add_emod_right]
      exact Int.emod_eq_of_lt (by omega) (by omega)
    rw [e]
    unfold sgn
    rw [pow_int, Nat.mod_eq_of_lt (by omega), if_neg (by omega)]
    omega
  · have e : z % ((2 ^ b : Nat) : Int) = z := Int.emod_eq_of_lt (by omega) (by omega)
    rw [e]
    unfold sgn
    rw [Nat.mod_eq_of_lt (by omega), if_pos (by omega)]
    omega
/-- How extend works it out: up, and down again with the sign. -/
theorem extend_val (n b : Nat) (h1 : 1 ≤ b) (h2 : b ≤ 64) :
    (((((n : Int) * 2 ^ (64 - b)) % 18446744073709551616 + 9223372036854775808) % 18446744073709551616) - 9223372036854775808) / (2 ^ (64 - b)) = sgn n b := by
  have hp : 0 < 2 ^ (64 - b) := Nat.pow_pos (by decide)
  have e64 : 2 ^ b * 2 ^ (64 - b) = 18446744073709551616 := by rw [← Nat.pow_add, show b + (64 - b) = 64 by omega]
  have e63 : 2 ^ (b - 1) * 2 ^ (64 - b) = 9223372036854775808 := by rw [← Nat.pow_add, show b - 1 + (64 - b) = 63 by omega]
  have e1 : ((n : Int) * 2 ^ (64 - b)) % 18446744073709551616 = (((n % 2 ^ b) * 2 ^ (64 - b) : Nat) : Int) := by
    rw [pow_int, ← Int.natCast_mul, show (18446744073709551616 : Int) = ((18446744073709551616 : Nat) : Int) from rfl, ← Int.natCast_emod, ← e64, Nat.mul_mod_mul_right]
  rw [e1]
  have hm : n % 2 ^ b < 2 ^ b := Nat.mod_lt _ (Nat.pow_pos (by decide))
  unfold sgn
  generalize n % 2 ^ b = m at *
  have hb := two_half b h1
  have hlt : m * 2 ^ (64 - b) < 18446744073709551616 := by rw [← e64]; exact Nat.mul_lt_mul_of_pos_right hm hp
  split
  · rename_i hlow
    have h3 : m * 2 ^ (64 - b) < 9223372036854775808 := by rw [← e63]; exact Nat.mul_lt_mul_of_pos_right hlow hp
    rw [Int.emod_eq_of_lt (by omega) (by omega), show ((m * 2 ^ (64 - b) : Nat) : Int) + 9223372036854775808 - 9223372036854775808 = ((m * 2 ^ (64 - b) : Nat) : Int) by omega, pow_int, ← Int.natCast_ediv, Nat.mul_div_cancel _ hp]
  · rename_i hhigh
    have h3 : 9223372036854775808 ≤ m * 2 ^ (64 - b) := by rw [← e63]; exact Nat.mul_le_mul_right _ (by omega)
    have e2 : (((m * 2 ^ (64 - b) : Nat) : Int) + 9223372036854775808) % 18446744073709551616 = ((m * 2 ^ (64 - b) : Nat) : Int) - 9223372036854775808 := by omega
    have e3 : ((m * 2 ^ (64 - b) : Nat) : Int) - 9223372036854775808 - 9223372036854775808 = ((m : Int) - ((2 ^ b : Nat) : Int)) * ((2 ^ (64 - b) : Nat) : Int) := by
      rw [Int.sub_mul, ← Int.natCast_mul, ← Int.natCast_mul, e64]; omega
    rw [e2, e3, pow_int, pow_int, Int.mul_ediv_cancel _ (by omega)]

def lowS (n : Nat) (x : Int) : Nat × Int := if 1 ≤ x ∧ x ≤ 64 then (n % 2 ^ x.toNat, 0) else (0, 1)
def signS (n : Nat) (x : Int) : Int × Int := if 1 ≤ x ∧ x ≤ 64 then (sgn n x.toNat, 0) else (0, 1)
/-- Bytes with a number behind: ErrArg 1, ErrRange 9. -/
def putS (l : List UInt8) (x : Int) (m : Nat) : List UInt8 × Int :=
  if 1 ≤ x ∧ x ≤ 8 then (if 256 ^ x.toNat ≤ m then ([], 9) else (l ++ lb x.toNat m, 0)) else ([], 1)
def putIntS (l : List UInt8) (x : Int) (z : Int) : List UInt8 × Int :=
  if 1 ≤ x ∧ x ≤ 8 then (if -((2 ^ (8 * x.toNat - 1) : Nat) : Int) ≤ z ∧ z < ((2 ^ (8 * x.toNat - 1) : Nat) : Int) then (l ++ lb x.toNat (z % 18446744073709551616).toNat, 0) else ([], 9)) else ([], 1)
/-- The number at a place: ErrArg 1, ErrShort 2. -/
def getS (l : List UInt8) (p x : Int) : Nat × Int :=
  if 1 ≤ x ∧ x ≤ 8 ∧ 0 ≤ p ∧ p ≤ (l.length : Int) then (if (l.length : Int) - p < x then (0, 2) else (le (cut l p.toNat x.toNat), 0)) else (0, 1)
def getIntS (l : List UInt8) (p x : Int) : Int × Int := if (getS l p x).2 = 0 then (sgn (getS l p x).1 (8 * x.toNat), 0) else (0, (getS l p x).2)

/-! ### digits -/
def dig (i : Nat) : UInt8 := if i < 10 then UInt8.ofNat (48 + i) else UInt8.ofNat (87 + i)
def hexS (l : List UInt8) : List UInt8 := l.flatMap fun c => [dig (c.toNat / 16), dig (c.toNat % 16)]
theorem hexS_length : ∀ (l : List UInt8), (hexS l).length = 2 * l.length
  | [] => rfl
  | c :: l => by
    have := hexS_length l
    simp only [hexS, List.flatMap_cons, List.length_append, List.length_cons, List.length_nil] at *
    omega
theorem hexS_snoc (l : List UInt8) (c : UInt8) : hexS (l ++ [c]) = hexS l ++ [dig (c.toNat / 16), dig (c.toNat % 16)] := by simp [hexS]
theorem hexS_append (a b : List UInt8) : hexS (a ++ b) = hexS a ++ hexS b := by simp [hexS]
/-- A digit's value. -/
def nib (c : UInt8) : Option Nat := if 48 ≤ c.toNat ∧ c.toNat ≤ 57 then some (c.toNat - 48) else if 97 ≤ c.toNat ∧ c.toNat ≤ 102 then some (c.toNat - 87) else none
theorem nib_lt {c : UInt8} {k : Nat} (h : nib c = some k) : k < 16 := by
  unfold nib at h
  split at h
  · injection h; omega
  · split at h
    · injection h; omega
    · cases h
theorem dig_toNat (i : Nat) (h : i < 16) : (dig i).toNat = if i < 10 then 48 + i else 87 + i := by
  unfold dig
  split <;> rw [UInt8.toNat_ofNat'] <;> omega
theorem nib_dig (i : Nat) (h : i < 16) : nib (dig i) = some i := by
  have := dig_toNat i h
  unfold nib
  split at this <;> rw [this]
  · rw [if_pos (by omega)]; congr 1; omega
  · rw [if_neg (by omega), if_pos (by omega)]; congr 1; omega
theorem dig_nib {c : UInt8} {k : Nat} (h : nib c = some k) : dig k = c := by
  apply UInt8.toNat_inj.1
  rw [dig_toNat k (nib_lt h)]
  have hc := c.toNat_lt
  unfold nib at h
  split at h
  · injection h; split <;> omega
  · split at h
    · injection h; split <;> omega
    · cases h
/-- Texts of digits, two a byte. -/
def pairs : List UInt8 → Option (List UInt8)
  | [] => some []
  | [_] => none
  | a :: b :: r => match nib a, nib b, pairs r with
    | some h, some l, some t => some (UInt8.ofNat (16 * h + l) :: t)
    | _, _, _ => none
theorem pairs_append : ∀ (a b : List UInt8), a.length % 2 = 0 → pairs (a ++ b) = match pairs a, pairs b with | some x, some y => some (x ++ y) | _, _ => none
  | [], b, _ => by simp only [List.nil_append, pairs]; cases pairs b <;> rfl
  | [_], _, h => by simp at h
  | x :: y :: a, b, h => by
    have ih := pairs_append a b (by simp at h; omega)
    simp only [List.cons_append, pairs]
    rw [ih]
    cases nib x <;> cases nib y <;> cases pairs a <;> cases pairs b <;> rfl
theorem pairs_length : ∀ (s l : List UInt8), pairs s = some l → s.length = 2 * l.length
  | [], l, h => by simp only [pairs] at h; injection h with h; subst h; rfl
  | [_], _, h => by simp [pairs] at h
  | a :: b :: r, l, h => by
    simp only [pairs] at h
    split at h
    · rename_i x y t _ _ ht
      injection h with h
      subst h
      have := pairs_length r t ht
      simp; omega
    · cases h
theorem pairs_hex : ∀ (l : List UInt8), pairs (hexS l) = some l
  | [] => rfl
  | c :: l => by
    have hc := c.toNat_lt
    have e : hexS (c :: l) = dig (c.toNat / 16) :: dig (c.toNat % 16) :: hexS l := by simp [hexS]
    rw [e, pairs, nib_dig _ (by omega), nib_dig _ (by omega), pairs_hex l]
    simp only
    congr 2
    apply UInt8.toNat_inj.1
    rw [UInt8.toNat_ofNat']
    omega
theorem hex_pairs : ∀ (s l : List UInt8), pairs s = some l → hexS l = s
  | [], l, h => by simp only [pairs] at h; injection h with h; subst h; rfl
  | [_], _, h => by simp [pairs] at h
  | a :: b :: r, l, h => by
    simp only [pairs] at h
    split at h
    · rename_i x y t hx hy ht
      injection h with h
      subst h
      have h1 := nib_lt hx
      have h2 := nib_lt hy
      have e : hexS (UInt8.ofNat (16 * x + y) :: t) = dig ((UInt8.ofNat (16 * x + y)).toNat / 16) :: dig ((UInt8.ofNat (16 * x + y)).toNat % 16) :: hexS t := by simp [hexS]
      rw [e, hex_pairs r t ht, UInt8.toNat_ofNat']
      rw [show (16 * x + y) % 2 ^ 8 / 16 = x by omega, show (16 * x + y) % 2 ^ 8 % 16 = y by omega, dig_nib hx, dig_nib hy]
    · cases h
/-- A text's bytes: ErrForm 4. -/
def unhexS (s : List UInt8) : List UInt8 × Int := match pairs s with | some l => (l, 0) | none => ([], 4)
theorem pairs_odd : ∀ (s : List UInt8), s.length % 2 = 1 → pairs s = none
  | [], h => by simp at h
  | [_], _ => rfl
  | a :: b :: r, h => by
    have := pairs_odd r (by simp at h; omega)
    simp only [pairs, this]
    cases nib a <;> cases nib b <;> rfl
theorem pairs_two (s : List UInt8) (k : Nat) (h : 2 * k + 1 < s.length) : s.take (2 * (k + 1)) = s.take (2 * k) ++ [s.getD (2 * k) 0, s.getD (2 * k + 1) 0] := by
  have e1 := List.take_succ_eq_append_getElem (l := s) (i := 2 * k) (by omega)
  have e2 := List.take_succ_eq_append_getElem (l := s) (i := 2 * k + 1) (by omega)
  have g1 : s.getD (2 * k) 0 = s[2 * k] := by simp [List.getD, show 2 * k < s.length by omega]
  have g2 : s.getD (2 * k + 1) 0 = s[2 * k + 1] := by simp [List.getD, h]
  rw [show 2 * (k + 1) = 2 * k + 1 + 1 by omega, e2, e1, g1, g2, List.append_assoc]
  rfl
theorem pairs_step {s l : List UInt8} {k : Nat} (h : 2 * k + 1 < s.length) (hl : pairs (s.take (2 * k)) = some l) {x y : Nat} (hx : nib (s.getD (2 * k) 0) = some x) (hy : nib (s.getD (2 * k + 1) 0) = some y) :
    pairs (s.take (2 * (k + 1))) = some (l ++ [UInt8.ofNat (16 * x + y)]) := by
  rw [pairs_two s k h, pairs_append _ _ (by rw [List.length_take]; omega), hl]
  simp only [pairs]
  rw [hx, hy]
theorem pairs_bad {s : List UInt8} {k : Nat} (h : 2 * k + 1 < s.length) (hb : nib (s.getD (2 * k) 0) = none ∨ nib (s.getD (2 * k + 1) 0) = none) : pairs s = none := by
  have e : s = s.take (2 * k) ++ (s.getD (2 * k) 0 :: s.getD (2 * k + 1) 0 :: s.drop (2 * k + 2)) := by
    have e1 := List.drop_eq_getElem_cons (l := s) (i := 2 * k) (by omega)
    have e2 := List.drop_eq_getElem_cons (l := s) (i := 2 * k + 1) (by omega)
    conv => lhs; rw [← List.take_append_drop (2 * k) s, e1, e2]
    simp [List.getD, show 2 * k < s.length by omega, h]
  rw [e, pairs_append _ _ (by rw [List.length_take]; omega), pairs]
  rcases hb with hb | hb <;> rw [hb]
  · cases pairs (s.take (2 * k)) <;> rfl
  · cases nib (s.getD (2 * k) 0) <;> cases pairs (s.take (2 * k)) <;> rfl
end Go.Proofs.Ytnppihlalhaldaa.Oct
