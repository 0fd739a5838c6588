/-
  Texts joined: Oct, OctPure, TypPure.
  Conditions: none.
-/
/-
  Numbers as bytes, the lowest one first: what layer 1 answers, as plain functions.
  Conditions: none.
-/
namespace Go.Proofs.YtmolmpgampmolaaGreat.Oct
set_option linter.unusedVariables false
set_option linter.unusedSimpArgs false
/-- Bytes as a number, the lowest one first. -/
def le : List UInt8 → Nat
  | [] => 0
  | c :: l => c.toNat + 256 * le l
/-- A number's k lowest bytes. -/
def lb : Nat → Nat → List UInt8
  | 0, _ => []
  | k + 1, n => lb k n ++ [UInt8.ofNat (n / 256 ^ k)]
theorem lb_length : ∀ k n, (lb k n).length = k
  | 0, _ => rfl
  | k + 1, n => by simp [lb, lb_length k]
theorem le_append : ∀ (a b : List UInt8), le (a ++ b) = le a + 256 ^ a.length * le b
  | [], b => by simp [le]
  | c :: a, b => by
    simp only [List.cons_append, le, List.length_cons, le_append a b, Nat.pow_succ]
    rw [Nat.mul_add, ← Nat.mul_assoc, Nat.add_assoc, Nat.mul_comm 256 (256 ^ a.length)]
theorem le_snoc (a : List UInt8) (c : UInt8) : le (a ++ [c]) = le a + c.toNat * 256 ^ a.length := by
  rw [le_append]; simp [le, Nat.mul_comm]
theorem le_lt : ∀ (l : List UInt8), le l < 256 ^ l.length
  | [] => by simp [le]
  | c :: l => by
    have h1 := le_lt l
    have h2 := c.toNat_lt
    simp only [le, List.length_cons, Nat.pow_succ]
    omega
/-- k bytes from place p on. -/
def cut (l : List UInt8) (p k : Nat) : List UInt8 := (l.drop p).take k
theorem cut_length (l : List UInt8) (p k : Nat) (h : p + k ≤ l.length) : (cut l p k).length = k := by simp [cut]; omega
theorem cut_succ (l : List UInt8) (p k : Nat) (h : p + k < l.length) : cut l p (k + 1) = cut l p k ++ [l.getD (p + k) 0] := by
  unfold cut
  rw [List.take_succ_eq_append_getElem (by simp; omega)]
  simp [List.getD, h]
theorem cut_zero (l : List UInt8) (p : Nat) : cut l p 0 = [] := by simp [cut]
theorem le_lb : ∀ (k n : Nat), le (lb k n) = n % 256 ^ k
  | 0, n => by simp [lb, le, Nat.mod_one]
  | k + 1, n => by
    rw [lb, le_snoc, le_lb k, lb_length, UInt8.toNat_ofNat', show (2 ^ 8 : Nat) = 256 from rfl, Nat.mod_pow_succ (x := n) (b := 256) (k := k), Nat.mul_comm (256 ^ k)]
theorem lb_cons : ∀ (k n : Nat), lb (k + 1) n = UInt8.ofNat n :: lb k (n / 256)
  | 0, n => by simp [lb]
  | k + 1, n => by
    rw [lb, lb_cons k n, List.cons_append]
    congr 1
    rw [lb, Nat.div_div_eq_div_mul, Nat.pow_succ, Nat.mul_comm 256]
theorem lb_le : ∀ (l : List UInt8), lb l.length (le l) = l
  | [] => rfl
  | c :: l => by
    have h := c.toNat_lt
    rw [List.length_cons, lb_cons, le]
    rw [show (c.toNat + 256 * le l) / 256 = le l by omega, lb_le l]
    congr 1
    apply UInt8.toNat_inj.1
    rw [UInt8.toNat_ofNat']
    omega
theorem lb_mod (k n m : Nat) (h : k ≤ m) : lb k (n % 256 ^ m) = lb k n := by
  have h1 := lb_le (lb k (n % 256 ^ m))
  have h2 := lb_le (lb k n)
  rw [lb_length, le_lb] at h1 h2
  rw [← h1, ← h2, Nat.mod_mod_of_dvd _ (Nat.pow_dvd_pow 256 h)]
theorem le_inj {a b : List UInt8} (hl : a.length = b.length) (h : le a = le b) : a = b := by
  rw [← lb_le a, ← lb_le b, hl, h]

end Go.Proofs.YtmolmpgampmolaaGreat.Oct
/-
  Layer 1 as plain functions: the lowest bits, signs, digits.
  Conditions: none.
-/
namespace Go.Proofs.YtmolmpgampmolaaGreat.Oct
set_option linter.unusedVariables false
set_option linter.unusedSimpArgs false
/-- The lowest b bits as a number with a sign. -/
def sgn (n b : Nat) : Int := if n % 2 ^ b < 2 ^ (b - 1) then ((n % 2 ^ b : Nat) : Int) else ((n % 2 ^ b : Nat) : Int) - 2 ^ b
theorem two_half (b : Nat) (h : 1 ≤ b) : 2 ^ b = 2 * 2 ^ (b - 1) := by
  obtain ⟨k, rfl⟩ : ∃ k, b = k + 1 := ⟨b - 1, by omega⟩
  rw [Nat.add_sub_cancel, Nat.pow_succ, Nat.mul_comm]
theorem pow_int (b : Nat) : (2 : Int) ^ b = ((2 ^ b : Nat) : Int) := by simp
theorem sgn_mod (n b : Nat) : sgn (n % 2 ^ b) b = sgn n b := by unfold sgn; rw [Nat.mod_mod]
theorem sgn_bounds (n b : Nat) (h : 1 ≤ b) : -((2 ^ (b - 1) : Nat) : Int) ≤ sgn n b ∧ sgn n b < ((2 ^ (b - 1) : Nat) : Int) := by
  have h1 := two_half b h
  have h2 : n % 2 ^ b < 2 ^ b := Nat.mod_lt _ (Nat.pow_pos (by decide))
  unfold sgn
  rw [pow_int]
  split <;> omega
/-- Modulo 2^b it is the number. -/
theorem sgn_emod (n b : Nat) : sgn n b % ((2 ^ b : Nat) : Int) = ((n % 2 ^ b : Nat) : Int) := by
  have hp : 0 < 2 ^ b := Nat.pow_pos (by decide)
  have h2 : n % 2 ^ b < 2 ^ b := Nat.mod_lt _ hp
  unfold sgn
  rw [pow_int]
  split
  · exact Int.emod_eq_of_lt (by omega) (by omega)
  · rw [Int.sub_emod_right]
    exact Int.emod_eq_of_lt (by omega) (by omega)
/-- Of a number with a sign that fits. -/
theorem sgn_of (z : Int) (b : Nat) (h : 1 ≤ b) (h1 : -((2 ^ (b - 1) : Nat) : Int) ≤ z) (h2 : z < ((2 ^ (b - 1) : Nat) : Int)) : sgn (z % ((2 ^ b : Nat) : Int)).toNat b = z := by
  have h3 := two_half b h
  have hp : 0 < 2 ^ b := Nat.pow_pos (by decide)
  by_cases hz : z < 0
  · have e : z % ((2 ^ b : Nat) : Int) = z + ((2 ^ b : Nat) : Int) := by
      rw [← Int.add_emod_right]
      exact Int.emod_eq_of_lt (by omega) (by omega)
    rw [e]
    unfold sgn
    rw [pow_int, Nat.mod_eq_of_lt (by omega), if_neg (by omega)]
    omega
  · have e : z % ((2 ^ b : Nat) : Int) = z := Int.emod_eq_of_lt (by omega) (by omega)
    rw [e]
    unfold sgn
    rw [Nat.mod_eq_of_lt (by omega), if_pos (by omega)]
    omega
/-- How extend works it out: up, and down again with the sign. -/
theorem extend_val (n b : Nat) (h1 : 1 ≤ b) (h2 : b ≤ 64) :
    (((((n : Int) * 2 ^ (64 - b)) % 18446744073709551616 + 9223372036854775808) % 18446744073709551616) - 9223372036854775808) / (2 ^ (64 - b)) = sgn n b := by
  have hp : 0 < 2 ^ (64 - b) := Nat.pow_pos (by decide)
  have e64 : 2 ^ b * 2 ^ (64 - b) = 18446744073709551616 := by rw [← Nat.pow_add, show b + (64 - b) = 64 by omega]
  have e63 : 2 ^ (b - 1) * 2 ^ (64 - b) = 9223372036854775808 := by rw [← Nat.pow_add, show b - 1 + (64 - b) = 63 by omega]
  have e1 : ((n : Int) * 2 ^ (64 - b)) % 18446744073709551616 = (((n % 2 ^ b) * 2 ^ (64 - b) : Nat) : Int) := by
    rw [pow_int, ← Int.natCast_mul, show (18446744073709551616 : Int) = ((18446744073709551616 : Nat) : Int) from rfl, ← Int.natCast_emod, ← e64, Nat.mul_mod_mul_right]
  rw [e1]
  have hm : n % 2 ^ b < 2 ^ b := Nat.mod_lt _ (Nat.pow_pos (by decide))
  unfold sgn
  generalize n % 2 ^ b = m at *
  have hb := two_half b h1
  have hlt : m * 2 ^ (64 - b) < 18446744073709551616 := by rw [← e64]; exact Nat.mul_lt_mul_of_pos_right hm hp
  split
  · rename_i hlow
    have h3 : m * 2 ^ (64 - b) < 9223372036854775808 := by rw [← e63]; exact Nat.mul_lt_mul_of_pos_right hlow hp
    rw [Int.emod_eq_of_lt (by omega) (by omega), show ((m * 2 ^ (64 - b) : Nat) : Int) + 9223372036854775808 - 9223372036854775808 = ((m * 2 ^ (64 - b) : Nat) : Int) by omega, pow_int, ← Int.natCast_ediv, Nat.mul_div_cancel _ hp]
  · rename_i hhigh
    have h3 : 9223372036854775808 ≤ m * 2 ^ (64 - b) := by rw [← e63]; exact Nat.mul_le_mul_right _ (by omega)
    have e2 : (((m * 2 ^ (64 - b) : Nat) : Int) + 9223372036854775808) % 18446744073709551616 = ((m * 2 ^ (64 - b) : Nat) : Int) - 9223372036854775808 := by omega
    have e3 : ((m * 2 ^ (64 - b) : Nat) : Int) - 9223372036854775808 - 9223372036854775808 = ((m : Int) - ((2 ^ b : Nat) : Int)) * ((2 ^ (64 - b) : Nat) : Int) := by
      rw [Int.sub_mul, ← Int.natCast_mul, ← Int.natCast_mul, e64]; omega
    rw [e2, e3, pow_int, pow_int, Int.mul_ediv_cancel _ (by omega)]

def lowS (n : Nat) (x : Int) : Nat × Int := if 1 ≤ x ∧ x ≤ 64 then (n % 2 ^ x.toNat, 0) else (0, 1)
def signS (n : Nat) (x : Int) : Int × Int := if 1 ≤ x ∧ x ≤ 64 then (sgn n x.toNat, 0) else (0, 1)
/-- Bytes with a number behind: ErrArg 1, ErrRange 9. -/
def putS (l : List UInt8) (x : Int) (m : Nat) : List UInt8 × Int :=
  if 1 ≤ x ∧ x ≤ 8 then (if 256 ^ x.toNat ≤ m then ([], 9) else (l ++ lb x.toNat m, 0)) else ([], 1)
def putIntS (l : List UInt8) (x : Int) (z : Int) : List UInt8 × Int :=
  if 1 ≤ x ∧ x ≤ 8 then (if -((2 ^ (8 * x.toNat - 1) : Nat) : Int) ≤ z ∧ z < ((2 ^ (8 * x.toNat - 1) : Nat) : Int) then (l ++ lb x.toNat (z % 18446744073709551616).toNat, 0) else ([], 9)) else ([], 1)
/-- The number at a place: ErrArg 1, ErrShort 2. -/
def getS (l : List UInt8) (p x : Int) : Nat × Int :=
  if 1 ≤ x ∧ x ≤ 8 ∧ 0 ≤ p ∧ p ≤ (l.length : Int) then (if (l.length : Int) - p < x then (0, 2) else (le (cut l p.toNat x.toNat), 0)) else (0, 1)
def getIntS (l : List UInt8) (p x : Int) : Int × Int := if (getS l p x).2 = 0 then (sgn (getS l p x).1 (8 * x.toNat), 0) else (0, (getS l p x).2)

/-! ### digits -/
def dig (i : Nat) : UInt8 := if i < 10 then UInt8.ofNat (48 + i) else UInt8.ofNat (87 + i)
def hexS (l : List UInt8) : List UInt8 := l.flatMap fun c => [dig (c.toNat / 16), dig (c.toNat % 16)]
theorem hexS_length : ∀ (l : List UInt8), (hexS l).length = 2 * l.length
  | [] => rfl
  | c :: l => by
    have := hexS_length l
    simp only [hexS, List.flatMap_cons, List.length_append, List.length_cons, List.length_nil] at *
    omega
theorem hexS_snoc (l : List UInt8) (c : UInt8) : hexS (l ++ [c]) = hexS l ++ [dig (c.toNat / 16), dig (c.toNat % 16)] := by simp [hexS]
theorem hexS_append (a b : List UInt8) : hexS (a ++ b) = hexS a ++ hexS b := by simp [hexS]
/-- A digit's value. -/
def nib (c : UInt8) : Option Nat := if 48 ≤ c.toNat ∧ c.toNat ≤ 57 then some (c.toNat - 48) else if 97 ≤ c.toNat ∧ c.toNat ≤ 102 then some (c.toNat - 87) else none
theorem nib_lt {c : UInt8} {k : Nat} (h : nib c = some k) : k < 16 := by
  unfold nib at h
  split at h
  · injection h; omega
  · split at h
    · injection h; omega
    · cases h
theorem dig_toNat (i : Nat) (h : i < 16) : (dig i).toNat = if i < 10 then 48 + i else 87 + i := by
  unfold dig
  split <;> rw [UInt8.toNat_ofNat'] <;> omega
theorem nib_dig (i : Nat) (h : i < 16) : nib (dig i) = some i := by
  have := dig_toNat i h
  unfold nib
  split at this <;> rw [this]
  · rw [if_pos (by omega)]; congr 1; omega
  · rw [if_neg (by omega), if_pos (by omega)]; congr 1; omega
theorem dig_nib {c : UInt8} {k : Nat} (h : nib c = some k) : dig k = c := by
  apply UInt8.toNat_inj.1
  rw [dig_toNat k (nib_lt h)]
  have hc := c.toNat_lt
  unfold nib at h
  split at h
  · injection h; split <;> omega
  · split at h
    · injection h; split <;> omega
    · cases h
/-- Texts of digits, two a byte. -/
def pairs : List UInt8 → Option (List UInt8)
  | [] => some []
  | [_] => none
  | a :: b :: r => match nib a, nib b, pairs r with
    | some h, some l, some t => some (UInt8.ofNat (16 * h + l) :: t)
    | _, _, _ => none
theorem pairs_append : ∀ (a b : List UInt8), a.length % 2 = 0 → pairs (a ++ b) = match pairs a, pairs b with | some x, some y => some (x ++ y) | _, _ => none
  | [], b, _ => by simp only [List.nil_append, pairs]; cases pairs b <;> rfl
  | [_], _, h => by simp at h
  | x :: y :: a, b, h => by
    have ih := pairs_append a b (by simp at h; omega)
    simp only [List.cons_append, pairs]
    rw [ih]
    cases nib x <;> cases nib y <;> cases pairs a <;> cases pairs b <;> rfl
theorem pairs_length : ∀ (s l : List UInt8), pairs s = some l → s.length = 2 * l.length
  | [], l, h => by simp only [pairs] at h; injection h with h; subst h; rfl
  | [_], _, h => by simp [pairs] at h
  | a :: b :: r, l, h => by
    simp only [pairs] at h
    split at h
    · rename_i x y t _ _ ht
      injection h with h
      subst h
      have := pairs_length r t ht
      simp; omega
    · cases h
theorem pairs_hex : ∀ (l : List UInt8), pairs (hexS l) = some l
  | [] => rfl
  | c :: l => by
    have hc := c.toNat_lt
    have e : hexS (c :: l) = dig (c.toNat / 16) :: dig (c.toNat % 16) :: hexS l := by simp [hexS]
    rw [e, pairs, nib_dig _ (by omega), nib_dig _ (by omega), pairs_hex l]
    simp only
    congr 2
    apply UInt8.toNat_inj.1
    rw [UInt8.toNat_ofNat']
    omega
theorem hex_pairs : ∀ (s l : List UInt8), pairs s = some l → hexS l = s
  | [], l, h => by simp only [pairs] at h; injection h with h; subst h; rfl
  | [_], _, h => by simp [pairs] at h
  | a :: b :: r, l, h => by
    simp only [pairs] at h
    split at h
    · rename_i x y t hx hy ht
      injection h with h
      subst h
      have h1 := nib_lt hx
      have h2 := nib_lt hy
      have e : hexS (UInt8.ofNat (16 * x + y) :: t) = dig ((UInt8.ofNat (16 * x + y)).toNat / 16) :: dig ((UInt8.ofNat (16 * x + y)).toNat % 16) :: hexS t := by simp [hexS]
      rw [e, hex_pairs r t ht, UInt8.toNat_ofNat']
      rw [show (16 * x + y) % 2 ^ 8 / 16 = x by omega, show (16 * x + y) % 2 ^ 8 % 16 = y by omega, dig_nib hx, dig_nib hy]
    · cases h
/-- A text's bytes: ErrForm 4. -/
def unhexS (s : List UInt8) : List UInt8 × Int := match pairs s with | some l => (l, 0) | none => ([], 4)
theorem pairs_odd : ∀ (s : List UInt8), s.length % 2 = 1 → pairs s = none
  | [], h => by simp at h
  | [_], _ => rfl
  | a :: b :: r, h => by
    have := pairs_odd r (by simp at h; omega)
    simp only [pairs, this]
    cases nib a <;> cases nib b <;> rfl
theorem pairs_two (s : List UInt8) (k : Nat) (h : 2 * k + 1 < s.length) : s.take (2 * (k + 1)) = s.take (2 * k) ++ [s.getD (2 * k) 0, s.getD (2 * k + 1) 0] := by
  have e1 := List.take_succ_eq_append_getElem (l := s) (i := 2 * k) (by omega)
  have e2 := List.take_succ_eq_append_getElem (l := s) (i := 2 * k + 1) (by omega)
  have g1 : s.getD (2 * k) 0 = s[2 * k] := by simp [List.getD, show 2 * k < s.length by omega]
  have g2 : s.getD (2 * k + 1) 0 = s[2 * k + 1] := by simp [List.getD, h]
  rw [show 2 * (k + 1) = 2 * k + 1 + 1 by omega, e2, e1, g1, g2, List.append_assoc]
  rfl
theorem pairs_step {s l : List UInt8} {k : Nat} (h : 2 * k + 1 < s.length) (hl : pairs (s.take (2 * k)) = some l) {x y : Nat} (hx : nib (s.getD (2 * k) 0) = some x) (hy : nib (s.getD (2 * k + 1) 0) = some y) :
    pairs (s.take (2 * (k + 1))) = some (l ++ [UInt8.ofNat (16 * x + y)]) := by
  rw [pairs_two s k h, pairs_append _ _ (by rw [List.length_take]; omega), hl]
  simp only [pairs]
  rw [hx, hy]
theorem pairs_bad {s : List UInt8} {k : Nat} (h : 2 * k + 1 < s.length) (hb : nib (s.getD (2 * k) 0) = none ∨ nib (s.getD (2 * k + 1) 0) = none) : pairs s = none := by
  have e : s = s.take (2 * k) ++ (s.getD (2 * k) 0 :: s.getD (2 * k + 1) 0 :: s.drop (2 * k + 2)) := by
    have e1 := List.drop_eq_getElem_cons (l := s) (i := 2 * k) (by omega)
    have e2 := List.drop_eq_getElem_cons (l := s) (i := 2 * k + 1) (by omega)
    conv => lhs; rw [← List.take_append_drop (2 * k) s, e1, e2]
    simp [List.getD, show 2 * k < s.length by omega, h]
  rw [e, pairs_append _ _ (by rw [List.length_take]; omega), pairs]
  rcases hb with hb | hb <;> rw [hb]
  · cases pairs (s.take (2 * k)) <;> rfl
  · cases nib (s.getD (2 * k) 0) <;> cases pairs (s.take (2 * k)) <;> rfl
end Go.Proofs.YtmolmpgampmolaaGreat.Oct
/-
  Layer 5 as plain functions: types, their numbers in bytes and in digits, texts between signs.
  Conditions: none.
-/
namespace Go.Proofs.YtmolmpgampmolaaGreat.Ty
set_option linter.unusedVariables false
set_option linter.unusedSimpArgs false
structure Kd where
  name : List UInt8
  size : Nat
  bits : Nat
  sgn : Bool
def kd0 : Kd := ⟨[], 0, 0, false⟩
def kd (t : Int) : Kd :=
  if t = 1 then ⟨[98, 111, 111, 108], 1, 1, false⟩ else if t = 2 then ⟨[105, 56], 1, 8, true⟩ else if t = 3 then ⟨[105, 49, 54], 2, 16, true⟩ else if t = 4 then ⟨[105, 51, 50], 4, 32, true⟩
  else if t = 5 then ⟨[117, 56], 1, 8, false⟩ else if t = 6 then ⟨[117, 49, 54], 2, 16, false⟩ else if t = 7 then ⟨[117, 51, 50], 4, 32, false⟩
  else if t = 9 then ⟨[116, 101, 120, 116], 0, 0, false⟩ else if t = 10 then ⟨[98, 121, 116, 101, 115], 0, 0, false⟩ else if t = 15 then ⟨[100, 111, 109, 97, 105, 110], 0, 0, false⟩
  else if t = 21 then ⟨[105, 54, 52], 8, 64, true⟩ else kd0
/-- The numbers of the types that are known. -/
def nums : List Int := [1, 2, 3, 4, 5, 6, 7, 9, 10, 15, 21]
theorem kd_none {t : Int} (h : t ∉ nums) : kd t = kd0 := by
  unfold nums at h
  simp only [List.mem_cons, List.not_mem_nil, or_false, not_or] at h
  obtain ⟨h1, h2, h3, h4, h5, h6, h7, h8, h9, h10, h11⟩ := h
  unfold kd
  simp only [h1, h2, h3, h4, h5, h6, h7, h8, h9, h10, h11, if_false]
theorem kd_cases (t : Int) : (t = 1 ∨ t = 2 ∨ t = 3 ∨ t = 4 ∨ t = 5 ∨ t = 6 ∨ t = 7 ∨ t = 9 ∨ t = 10 ∨ t = 15 ∨ t = 21) ∨ (t ∉ nums ∧ kd t = kd0) := by
  by_cases h : t ∈ nums
  · left
    unfold nums at h
    simpa only [List.mem_cons, List.not_mem_nil, or_false] using h
  · exact .inr ⟨h, kd_none h⟩
def limS (t : Int) : Int × Int × Bool :=
  if (kd t).bits = 0 then (0, 0, false) else if (kd t).sgn = true then (-((2 ^ ((kd t).bits - 1) : Nat) : Int), ((2 ^ ((kd t).bits - 1) : Nat) : Int) - 1, true) else (0, ((2 ^ (kd t).bits : Nat) : Int) - 1, true)
/-- A number in bytes: ErrType 15, ErrRange 9. -/
def encS (t n : Int) : List UInt8 × Int :=
  if (limS t).2.2 = false then ([], 15) else if n < (limS t).1 ∨ (limS t).2.1 < n then ([], 9) else (Oct.lb (kd t).size (n % 18446744073709551616).toNat, 0)
/-- The number of bytes: ErrType 15, ErrShort 2, ErrBig 3, ErrRange 9. -/
def decS (t : Int) (b : List UInt8) : Int × Int :=
  if (kd t).bits = 0 then (0, 15) else if b.length < (kd t).size then (0, 2) else if (kd t).size < b.length then (0, 3)
  else if (kd t).sgn = true then (Oct.sgn (Oct.le b) (8 * (kd t).size), 0) else if 2 ^ (kd t).bits ≤ Oct.le b then (0, 9) else ((Oct.le b : Int), 0)
def seen (c : UInt8) : Bool := decide (32 ≤ c.toNat ∧ c.toNat ≤ 126)
def checkS (t most : Int) (b : List UInt8) : Int :=
  if (kd t).name = [] then 15 else if 0 < (kd t).bits then (decS t b).2 else if most < (b.length : Int) ∨ 256 < (b.length : Int) then 3 else if t = 9 ∧ b.all seen = false then 4 else 0
/-! ### digits -/
def dgt (m : Nat) : UInt8 := UInt8.ofNat (48 + m)
def decF : Nat → Nat → List UInt8
  | 0, _ => []
  | k + 1, m => (if m / 10 = 0 then [] else decF k (m / 10)) ++ [dgt (m % 10)]
def numT (n : Int) : List UInt8 := if n < 0 then 45 :: decF 20 n.natAbs else decF 20 n.natAbs
def isD (c : UInt8) : Bool := decide (48 ≤ c.toNat ∧ c.toNat ≤ 57)
def valD (s : List UInt8) : Nat := s.foldl (fun v c => 10 * v + (c.toNat - 48)) 0
def minus (s : List UInt8) : Bool := s.head? == some 45
def rest (s : List UInt8) : List UInt8 := if minus s = true then s.tail else s
/-- Have the digits of a number the form? -/
def formN (s : List UInt8) : Bool := !(rest s).isEmpty && !((rest s).head? == some 48 && s != [48]) && (rest s).all isD
/-- A number of digits: ErrForm 4, ErrRange 9. -/
def parN (s : List UInt8) : Int × Int :=
  if formN s = false then (0, 4) else if 9223372036854775808 < valD (rest s) ∨ (valD (rest s) = 9223372036854775808 ∧ minus s = false) then (0, 9)
  else (if minus s = true then -(valD (rest s) : Int) else (valD (rest s) : Int), 0)
/-! ### texts between signs -/
def mark (c : UInt8) : Bool := c == 34 || c == 92
def esc (b : List UInt8) : List UInt8 := b.flatMap fun c => if mark c = true then [92, c] else [c]
def quo (b : List UInt8) : List UInt8 := 34 :: (esc b ++ [34])
def unF : List UInt8 → Option (List UInt8)
  | [] => some []
  | [c] => if mark c = true then none else some [c]
  | c :: d :: r => if c = 34 then none else if c = 92 then (if mark d = true then (unF r).map (d :: ·) else none) else (unF (d :: r)).map (c :: ·)
def unq (s : List UInt8) : Option (List UInt8) := if 2 ≤ s.length ∧ s.head? = some 34 ∧ s.getLast? = some 34 then unF s.tail.dropLast else none
/-- Bytes as text. -/
def showS (t : Int) (b : List UInt8) : List UInt8 × Int :=
  if checkS t 256 b ≠ 0 then ([], checkS t 256 b) else if 0 < (kd t).bits then (numT (decS t b).1, 0) else if t = 9 then (quo b, 0) else (35 :: Oct.hexS b, 0)
/-- A text's bytes, of a type that has no numbers. -/
def rawS (t : Int) (s : List UInt8) : List UInt8 × Int :=
  if t = 9 then (match unq s with | some b => (b, 0) | none => ([], 4)) else if s.head? = some 35 then Oct.unhexS s.tail else ([], 4)
def parseS (t : Int) (s : List UInt8) : List UInt8 × Int :=
  if (kd t).name = [] then ([], 15) else if 0 < (kd t).bits then (if (parN s).2 ≠ 0 then ([], (parN s).2) else encS t (parN s).1)
  else if (rawS t s).2 ≠ 0 then ([], (rawS t s).2) else if checkS t 256 (rawS t s).1 ≠ 0 then ([], checkS t 256 (rawS t s).1) else ((rawS t s).1, 0)

/-! ### plain laws -/
theorem dgt_toNat {m : Nat} (h : m < 10) : (dgt m).toNat = 48 + m := by unfold dgt; rw [UInt8.toNat_ofNat']; omega
theorem dgt_isD {m : Nat} (h : m < 10) : isD (dgt m) = true := by unfold isD; rw [dgt_toNat h]; exact decide_eq_true (by omega)
theorem valD_snoc (s : List UInt8) (c : UInt8) : valD (s ++ [c]) = 10 * valD s + (c.toNat - 48) := by simp [valD]
theorem decF_all : ∀ (k m : Nat), (decF k m).all isD = true
  | 0, _ => rfl
  | k + 1, m => by
    rw [decF, List.all_append]
    simp only [List.all_cons, List.all_nil, Bool.and_true]
    rw [dgt_isD (Nat.mod_lt _ (by decide)), Bool.and_true]
    split
    · rfl
    · exact decF_all k _
theorem decF_val : ∀ (k m : Nat), m < 10 ^ k → valD (decF k m) = m
  | 0, m, h => by simp at h; subst h; rfl
  | k + 1, m, h => by
    rw [decF, valD_snoc, dgt_toNat (Nat.mod_lt _ (by decide))]
    split
    · rename_i h0
      have : valD [] = 0 := rfl
      rw [this]
      omega
    · rw [decF_val k (m / 10) (by rw [Nat.pow_succ] at h; omega)]
      omega
theorem decF_ne (k m : Nat) : decF (k + 1) m ≠ [] := by rw [decF]; simp
theorem decF_len : ∀ (k m : Nat), (decF k m).length ≤ k
  | 0, _ => by simp [decF]
  | k + 1, m => by
    rw [decF, List.length_append]
    split
    · simp
    · have := decF_len k (m / 10)
      simp only [List.length_cons, List.length_nil]
      omega
/-- The first digit is 0 of 0 alone. -/
theorem decF_head : ∀ (k m : Nat), 0 < m → m < 10 ^ k → ∃ d, (decF k m).head? = some d ∧ d ≠ 48
  | 0, m, h1, h2 => by simp at h2; omega
  | k + 1, m, h1, h2 => by
    rw [decF]
    split
    · rename_i h0
      refine ⟨dgt (m % 10), rfl, fun e => ?_⟩
      have := dgt_toNat (m := m % 10) (Nat.mod_lt _ (by decide))
      rw [e] at this
      have h48 : (48 : UInt8).toNat = 48 := rfl
      omega
    · rename_i h0
      obtain ⟨d, hd, hne⟩ := decF_head k (m / 10) (by omega) (by rw [Nat.pow_succ] at h2; omega)
      refine ⟨d, ?_, hne⟩
      cases hl : decF k (m / 10) with
      | nil => rw [hl] at hd; simp at hd
      | cons a r => rw [hl] at hd; simpa using hd
theorem decF_zero (k : Nat) : decF (k + 1) 0 = [48] := by simp [decF, dgt]
/-- Digits are what the number of them has. -/
theorem valD_lower : ∀ (s : List UInt8), s.all isD = true → ∀ d, s.head? = some d → d ≠ 48 → 10 ^ (s.length - 1) ≤ valD s := by
  intro s
  induction hn : s.length generalizing s with
  | zero => intro _ d hd; rw [List.eq_nil_of_length_eq_zero hn] at hd; cases hd
  | succ n ih =>
    intro hall d hd hne
    obtain ⟨a, c, rfl⟩ : ∃ a c, s = a ++ [c] := ⟨s.dropLast, s.getLast (by intro e; rw [e] at hn; cases hn), (List.dropLast_concat_getLast _).symm⟩
    have hla : a.length = n := by simpa using hn
    rw [List.all_append, Bool.and_eq_true] at hall
    rw [valD_snoc]
    cases n with
    | zero =>
      have : a = [] := List.eq_nil_of_length_eq_zero hla
      subst this
      simp at hd
      subst hd
      simp only [List.all_cons, List.all_nil, Bool.and_true] at hall
      have h1 : 48 ≤ c.toNat ∧ c.toNat ≤ 57 := of_decide_eq_true hall.2
      have h2 : c.toNat ≠ 48 := fun e => hne (UInt8.toNat_inj.1 e)
      simp
      omega
    | succ m =>
      have hd' : a.head? = some d := by
        cases a with
        | nil => cases hla
        | cons x r => simpa using hd
      have := ih a hla hall.1 d hd' hne
      simp only [Nat.add_sub_cancel] at this ⊢
      rw [Nat.pow_succ]
      omega
theorem decF_valD : ∀ (k : Nat) (s : List UInt8), s.all isD = true → s ≠ [] → s.length ≤ k → (∀ d, s.head? = some d → d ≠ 48 ∨ s.length = 1) → decF k (valD s) = s := by
  intro k
  induction k with
  | zero => intro s _ hne hl _; exact absurd (List.eq_nil_of_length_eq_zero (by omega)) hne
  | succ k ih =>
    intro s hall hne hl hh
    obtain ⟨a, c, rfl⟩ : ∃ a c, s = a ++ [c] := ⟨s.dropLast, s.getLast hne, (List.dropLast_concat_getLast _).symm⟩
    rw [List.all_append, Bool.and_eq_true] at hall
    simp only [List.all_cons, List.all_nil, Bool.and_true] at hall
    have hc : 48 ≤ c.toNat ∧ c.toNat ≤ 57 := of_decide_eq_true hall.2
    have e1 : (10 * valD a + (c.toNat - 48)) / 10 = valD a := by omega
    have e2 : (10 * valD a + (c.toNat - 48)) % 10 = c.toNat - 48 := by omega
    have e3 : dgt (c.toNat - 48) = c := UInt8.toNat_inj.1 (by rw [dgt_toNat (by omega)]; omega)
    rw [decF, valD_snoc, e1, e2, e3]
    congr 1
    cases ha : a with
    | nil => simp [valD]
    | cons x r =>
      rw [← ha]
      have hx : a.head? = some x := by rw [ha]; rfl
      have hx2 : (a ++ [c]).head? = some x := by rw [ha]; rfl
      have hne48 : x ≠ 48 := by
        rcases hh x hx2 with h | h
        · exact h
        · rw [ha] at h; simp at h
      have hlow := valD_lower a hall.1 x hx hne48
      have hpos : 0 < valD a := Nat.lt_of_lt_of_le (Nat.pow_pos (by decide)) hlow
      rw [if_neg (by omega)]
      exact ih a hall.1 (by rw [ha]; simp) (by simp at hl; omega) (fun d hd => by rw [hx] at hd; injection hd with hd; subst hd; exact .inl hne48)
theorem isD_ne {c : UInt8} (h : isD c = true) : c ≠ 45 := by
  rintro rfl
  revert h
  decide
/-- A number's digits are read as the number. -/
theorem parN_numT (n : Int) (h1 : -9223372036854775808 ≤ n) (h2 : n ≤ 9223372036854775807) : parN (numT n) = (n, 0) := by
  have hp : n.natAbs < 10 ^ 20 := Nat.lt_of_le_of_lt (show n.natAbs ≤ 9223372036854775808 by omega) (by decide)
  have hall := decF_all 20 n.natAbs
  have hval := decF_val 20 n.natAbs hp
  have hne := decF_ne 19 n.natAbs
  have hhead : ∀ d, (decF 20 n.natAbs).head? = some d → d ≠ 48 ∨ n.natAbs = 0 := fun d hd => by
    rcases Nat.eq_zero_or_pos n.natAbs with h0 | h0
    · exact .inr h0
    · obtain ⟨d', hd', hne'⟩ := decF_head 20 n.natAbs h0 hp
      rw [hd] at hd'
      injection hd' with e
      subst e
      exact .inl hne'
  have h0 : n.natAbs = 0 → decF 20 n.natAbs = [48] := fun e => by rw [e]; exact decF_zero 19
  unfold numT
  generalize decF 20 n.natAbs = s at *
  by_cases hn : n < 0
  · rw [if_pos hn]
    have hm : minus (45 :: s) = true := rfl
    have hr : rest (45 :: s) = s := by unfold rest; rw [if_pos hm]; rfl
    have hf : formN (45 :: s) = true := by
      unfold formN
      rw [hr, hall]
      cases s with
      | nil => exact absurd rfl hne
      | cons c r =>
        have := hhead c rfl
        rcases this with h | h
        · simp [h]
        · omega
    unfold parN
    rw [hf, hr, hm, hval, if_neg (by decide), if_neg (by simp; omega), if_pos rfl]
    congr 1
    omega
  · rw [if_neg hn]
    cases s with
    | nil => exact absurd rfl hne
    | cons c r =>
      have hc : isD c = true := by simp only [List.all_cons, Bool.and_eq_true] at hall; exact hall.1
      have hm : minus (c :: r) = false := by
        unfold minus
        have := isD_ne hc
        simp [this]
      have hr : rest (c :: r) = c :: r := by unfold rest; rw [hm]; rfl
      have hf : formN (c :: r) = true := by
        unfold formN
        rw [hr, hall]
        rcases hhead c rfl with h | h
        · simp [h]
        · rw [h0 h]; decide
      unfold parN
      rw [hf, hr, hm, hval, if_neg (by decide), if_neg (by simp; omega), if_neg (by decide)]
      congr 1
      omega
/-- A text that is read as a number is its digits. -/
theorem numT_parN {s : List UInt8} {n : Int} (h : parN s = (n, 0)) : numT n = s ∧ -9223372036854775808 ≤ n ∧ n ≤ 9223372036854775807 := by
  unfold parN at h
  split at h
  · simp at h
  · rename_i hf0
    have hf : formN s = true := by simpa using hf0
    split at h
    · simp at h
    · rename_i hr
      simp only [Prod.mk.injEq, and_true] at h
      unfold formN at hf
      simp only [Bool.and_eq_true, Bool.not_eq_true'] at hf
      obtain ⟨⟨hf1, hf2⟩, hf3⟩ := hf
      have hne : rest s ≠ [] := fun e => by rw [e] at hf1; simp at hf1
      have hlen : (rest s).length ≤ 20 := by
        rcases Nat.lt_or_ge 20 (rest s).length with hgt | hle
        · exfalso
          cases hrs : rest s with
          | nil => exact hne hrs
          | cons c r =>
            have hc48 : c ≠ 48 := by
              rintro rfl
              rw [hrs] at hf2
              have e48 : s = [48] := by simpa using hf2
              have : rest s = [48] := by rw [e48]; rfl
              rw [this] at hgt
              simp at hgt
            have hlow := valD_lower (rest s) hf3 c (by rw [hrs]; rfl) hc48
            have h2 : 10 ^ 20 ≤ 10 ^ ((rest s).length - 1) := Nat.pow_le_pow_right (by decide) (by omega)
            have h3 : (9223372036854775808 : Nat) < 10 ^ 20 := by decide
            exact hr (.inl (by omega))
        · exact hle
      have hd := decF_valD 20 (rest s) hf3 hne hlen (fun d hd => by
        by_cases h48 : d = 48
        · right
          subst h48
          rw [hd] at hf2
          have e48 : s = [48] := by simpa using hf2
          have : rest s = [48] := by rw [e48]; rfl
          rw [this]
          rfl
        · exact .inl h48)
      have hb : valD (rest s) ≤ 9223372036854775808 ∧ (minus s = false → valD (rest s) < 9223372036854775808) := by
        refine ⟨by omega, fun hm => ?_⟩
        have : ¬ (valD (rest s) = 9223372036854775808) := fun e => hr (.inr ⟨e, hm⟩)
        omega
      cases hm : minus s with
      | true =>
        rw [hm] at h
        simp only [if_true] at h
        have hs : s = 45 :: rest s := by
          unfold rest
          rw [hm, if_pos rfl]
          unfold minus at hm
          cases s with
          | nil => simp at hm
          | cons c r =>
            simp at hm
            rw [hm]
            rfl
        have hpos : 0 < valD (rest s) := by
          rcases Nat.eq_zero_or_pos (valD (rest s)) with h0 | h0
          · exfalso
            cases hrs : rest s with
            | nil => exact hne hrs
            | cons c r =>
              have hc48 : c ≠ 48 := by
                rintro rfl
                rw [hrs] at hf2
                have e48 : s = [48] := by simpa using hf2
                rw [e48] at hm
                exact absurd hm (by decide)
              have hlow := valD_lower (rest s) hf3 c (by rw [hrs]; rfl) hc48
              have := Nat.pow_pos (n := (rest s).length - 1) (show 0 < 10 by decide)
              omega
          · exact h0
        refine ⟨?_, by omega, by omega⟩
        unfold numT
        rw [if_pos (by omega), show n.natAbs = valD (rest s) by omega, hd]
        exact hs.symm
      | false =>
        rw [hm] at h
        simp only [Bool.false_eq_true, if_false] at h
        have hs : rest s = s := by unfold rest; rw [hm]; rfl
        have := hb.2 hm
        refine ⟨?_, by omega, by omega⟩
        unfold numT
        rw [if_neg (by omega), show n.natAbs = valD (rest s) by omega, hd]
        exact hs
theorem numT_len (n : Int) : (numT n).length ≤ 21 := by
  have := decF_len 20 n.natAbs
  unfold numT
  split
  · simp; omega
  · omega
/-! ### texts -/
theorem unF_esc : ∀ (b : List UInt8), unF (esc b) = some b
  | [] => rfl
  | c :: b => by
    have ih := unF_esc b
    have e : esc (c :: b) = (if mark c = true then [92, c] else [c]) ++ esc b := by simp [esc]
    rw [e]
    by_cases hm : mark c = true
    · rw [if_pos hm]
      simp only [List.cons_append, List.nil_append]
      rw [unF, if_neg (by decide), if_pos rfl, if_pos hm, ih]
      rfl
    · rw [if_neg hm]
      have h34 : c ≠ 34 := fun e => hm (by rw [e]; rfl)
      have h92 : c ≠ 92 := fun e => hm (by rw [e]; rfl)
      cases hb : esc b with
      | nil =>
        rw [hb] at ih
        simp only [List.cons_append, List.nil_append, unF]
        rw [if_neg hm]
        simp only [unF] at ih
        injection ih with ih
        rw [ih]
      | cons d r =>
        simp only [List.cons_append, List.nil_append]
        rw [unF, if_neg h34, if_neg h92, ← hb, ih]
        rfl
theorem esc_unF : ∀ (n : Nat) (s b : List UInt8), s.length ≤ n → unF s = some b → esc b = s
  | _, [], b, _, h => by simp only [unF] at h; injection h with h; subst h; rfl
  | _, [c], b, _, h => by
    simp only [unF] at h
    split at h
    · cases h
    · rename_i hm
      injection h with h
      subst h
      simp [esc, hm]
  | 0, _ :: _ :: _, _, hl, _ => by simp at hl
  | n + 1, c :: d :: r, b, hl, h => by
    simp only [unF] at h
    split at h
    · cases h
    · rename_i h34
      split at h
      · rename_i h92
        split at h
        · rename_i hm
          cases hu : unF r with
          | none => rw [hu] at h; cases h
          | some x =>
            rw [hu] at h
            simp only [Option.map_some, Option.some.injEq] at h
            subst h
            have := esc_unF n r x (by simp at hl; omega) hu
            rw [h92]
            simp only [esc, List.flatMap_cons] at this ⊢
            rw [if_pos hm, this]
            rfl
        · cases h
      · rename_i h92
        cases hu : unF (d :: r) with
        | none => rw [hu] at h; cases h
        | some x =>
          rw [hu] at h
          simp only [Option.map_some, Option.some.injEq] at h
          subst h
          have := esc_unF n (d :: r) x (by simp at hl ⊢; omega) hu
          have hm : ¬ mark c = true := by
            unfold mark
            simp [h34, h92]
          simp only [esc, List.flatMap_cons] at this ⊢
          rw [if_neg hm, this]
          rfl
theorem unq_quo (b : List UInt8) : unq (quo b) = some b := by
  unfold unq quo
  rw [if_pos ⟨by simp, rfl, by rw [← List.cons_append, List.getLast?_append]; rfl⟩]
  simp only [List.tail_cons]
  rw [List.dropLast_concat]
  exact unF_esc b
theorem quo_unq {s b : List UInt8} (h : unq s = some b) : quo b = s := by
  unfold unq at h
  split at h
  · rename_i h1
    obtain ⟨h2, h3, h4⟩ := h1
    have h5 := esc_unF _ _ _ (Nat.le_refl _) h
    cases s with
    | nil => simp at h2
    | cons c r =>
      simp at h3
      subst h3
      simp only [List.tail_cons] at h5
      unfold quo
      rw [h5]
      congr 1
      have hr : r ≠ [] := by rintro rfl; simp at h2
      have h6 : r.getLast hr = 34 := by
        rw [List.getLast?_cons] at h4
        simpa [List.getLast?_eq_some_getLast hr] using h4
      have := List.dropLast_concat_getLast hr
      rw [h6] at this
      exact this
  · cases h
end Go.Proofs.YtmolmpgampmolaaGreat.Ty
