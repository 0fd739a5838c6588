/-
  Layer 5 as plain functions: types, their numbers in bytes and in digits, texts between signs.
  Conditions: none.
-/
import Derived.Test.YtnppihlalhaldaaOctPure
namespace Go.Proofs.Ytnppihlalhaldaa.Ty
set_option linter.unusedVariables false
set_option linter.unusedSimpArgs false
structure Kd where
  name : List UInt8
  size : Nat
  bits : Nat
  sgn : Bool
def kd0 : Kd := ⟨[], 0, 0, false⟩
def kd (t : Int) : Kd :=
  if t = 1 then ⟨[98, 111, 111, 108], 1, 1, false⟩ else if t = 2 then ⟨[105, 56], 1, 8, true⟩ else if t = 3 then ⟨[105, 49, 54], 2, 16, true⟩ else if t = 4 then ⟨[105, 51, 50], 4, 32, true⟩
  else if t = 5 then ⟨[117, 56], 1, 8, false⟩ else if t = 6 then ⟨[117, 49, 54], 2, 16, false⟩ else if t = 7 then ⟨[117, 51, 50], 4, 32, false⟩
  else if t = 9 then ⟨[116, 101, 120, 116], 0, 0, false⟩ else if t = 10 then ⟨[98, 121, 116, 101, 115], 0, 0, false⟩ else if t = 15 then ⟨[100, 111, 109, 97, 105, 110], 0, 0, false⟩
  else if t = 21 then ⟨[105, 54, 52], 8, 64, true⟩ else kd0
/-- The numbers of the types that are known. -/
def nums : List Int := [1, 2, 3, 4, 5, 6, 7, 9, 10, 15, 21]
theorem kd_none {t : Int} (h : t ∉ nums) : kd t = kd0 := by
  unfold nums at h
  simp only [List.mem_cons, List.not_mem_nil, or_false, not_or] at h
  obtain ⟨h1, h2, h3, h4, h5, h6, h7, h8, h9, h10, h11⟩ := h
  unfold kd
  simp only [h1, h2, h3, h4, h5, h6, h7, h8, h9, h10, h11, if_false]
theorem kd_cases (t : Int) : (t = 1 ∨ t = 2 ∨ t = 3 ∨ t = 4 ∨ t = 5 ∨ t = 6 ∨ t = 7 ∨ t = 9 ∨ t = 10 ∨ t = 15 ∨ t = 21) ∨ (t ∉ nums ∧ kd t = kd0) := by
  by_cases h : t ∈ nums
  · left
    unfold nums at h
    simpa only [List.mem_cons, List.not_mem_nil, or_false] using h
  · exact .inr ⟨h, kd_none h⟩
def limS (t : Int) : Int × Int × Bool :=
  if (kd t).bits = 0 then (0, 0, false) else if (kd t).sgn = true then (-((2 ^ ((kd t).bits - 1) : Nat) : Int), ((2 ^ ((kd t).bits - 1) : Nat) : Int) - 1, true) else (0, ((2 ^ (kd t).bits : Nat) : Int) - 1, true)
/-- A number in bytes: ErrType 15, ErrRange 9. -/
def encS (t n : Int) : List UInt8 × Int :=
  if (limS t).2.2 = false then ([], 15) else if n < (limS t).1 ∨ (limS t).2.1 < n then ([], 9) else (Oct.lb (kd t).size (n % 18446744073709551616).toNat, 0)
/-- The number of bytes: ErrType 15, ErrShort 2, ErrBig 3, ErrRange 9. -/
def decS (t : Int) (b : List UInt8) : Int × Int :=
  if (kd t).bits = 0 then (0, 15) else if b.length < (kd t).size then (0, 2) else if (kd t).size < b.length then (0, 3)
  else if (kd t).sgn = true then (Oct.sgn (Oct.le b) (8 * (kd t).size), 0) else if 2 ^ (kd t).bits ≤ Oct.le b then (0, 9) else ((Oct.le b : Int), 0)
def seen (c : UInt8) : Bool := decide (32 ≤ c.toNat ∧ c.toNat ≤ 126)
def checkS (t most : Int) (b : List UInt8) : Int :=
  if (kd t).name = [] then 15 else if 0 < (kd t).bits then (decS t b).2 else if most < (b.length : Int) ∨ 256 < (b.length : Int) then 3 else if t = 9 ∧ b.all seen = false then 4 else 0
/-! ### digits -/
def dgt (m : Nat) : UInt8 := UInt8.ofNat (48 + m)
def decF : Nat → Nat → List UInt8
  | 0, _ => []
  | k + 1, m => (if m / 10 = 0 then [] else decF k (m / 10)) ++ [dgt (m % 10)]
def numT (n : Int) : List UInt8 := if n < 0 then 45 :: decF 20 n.natAbs else decF 20 n.natAbs
def isD (c : UInt8) : Bool := decide (48 ≤ c.toNat ∧ c.toNat ≤ 57)
def valD (s : List UInt8) : Nat := s.foldl (fun v c => 10 * v + (c.toNat - 48)) 0
def minus (s : List UInt8) : Bool := s.head? == some 45
def rest (s : List UInt8) : List UInt8 := if minus s = true then s.tail else s
/-- Have the digits of a number the form? -/
def formN (s : List UInt8) : Bool := !(rest s).isEmpty && !((rest s).head? == some 48 && s != [48]) && (rest s).all isD
/-- A number of digits: ErrForm 4, ErrRange 9. -/
def parN (s : List UInt8) : Int × Int :=
  if formN s = false then (0, 4) else if 9223372036854775808 < valD (rest s) ∨ (valD (rest s) = 9223372036854775808 ∧ minus s = false) then (0, 9)
  else (if minus s = true then -(valD (rest s) : Int) else (valD (rest s) : Int), 0)
/-! ### texts between signs -/
def mark (c : UInt8) : Bool := c == 34 || c == 92
def esc (b : List UInt8) : List UInt8 := b.flatMap fun c => if mark c = true then [92, c] else [c]
def quo (b : List UInt8) : List UInt8 := 34 :: (esc b ++ [34])
def unF : List UInt8 → Option (List UInt8)
  | [] => some []
  | [c] => if mark c = true then none else some [c]
  | c :: d :: r => if c = 34 then none else if c = 92 then (if mark d = true then (unF r).map (d :: ·) else none) else (unF (d :: r)).map (c :: ·)
def unq (s : List UInt8) : Option (List UInt8) := if 2 ≤ s.length ∧ s.head? = some 34 ∧ s.getLast? = some 34 then unF s.tail.dropLast else none
/-- Bytes as text. -/
def showS (t : Int) (b : List UInt8) : List UInt8 × Int :=
  if checkS t 256 b ≠ 0 then ([], checkS t 256 b) else if 0 < (kd t).bits then (numT (decS t b).1, 0) else if t = 9 then (quo b, 0) else (35 :: Oct.hexS b, 0)
/-- A text's bytes, of a type that has no numbers. -/
def rawS (t : Int) (s : List UInt8) : List UInt8 × Int :=
  if t = 9 then (match unq s with | some b => (b, 0) | none => ([], 4)) else if s.head? = some 35 then Oct.unhexS s.tail else ([], 4)
def parseS (t : Int) (s : List UInt8) : List UInt8 × Int :=
  if (kd t).name = [] then ([], 15) else if 0 < (kd t).bits then (if (parN s).2 ≠ 0 then ([], (parN s).2) else encS t (parN s).1)
  else if (rawS t s).2 ≠ 0 then ([], (rawS t s).2) else if checkS t 256 (rawS t s).1 ≠ 0 then ([], checkS t 256 (rawS t s).1) else ((rawS t s).1, 0)

/-! ### plain laws -/
theorem dgt_toNat {m : Nat} (h : m < 10) : (dgt m).toNat = 48 + m := by unfold dgt; rw [UInt8.toNat_ofNat']; omega
theorem dgt_isD {m : Nat} (h : m < 10) : isD (dgt m) = true := by unfold isD; rw [dgt_toNat h]; exact decide_eq_true (by omega)
theorem valD_snoc (s : List UInt8) (c : UInt8) : valD (s ++ [c]) = 10 * valD s + (c.toNat - 48) := by simp [valD]
theorem decF_all : ∀ (k m : Nat), (decF k m).all isD = true
  | 0, _ => rfl
  | k + 1, m => by
    rw [decF, List.all_append]
    simp only [List.all_cons, List.all_nil, Bool.and_true]
    rw [dgt_isD (Nat.mod_lt _ (by decide)), Bool.and_true]
    split
    · rfl
    · exact decF_all k _
theorem decF_val : ∀ (k m : Nat), m < 10 ^ k → valD (decF k m) = m
  | 0, m, h => by simp at h; subst h; rfl
  | k + 1, m, h => by
    rw [decF, valD_snoc, dgt_toNat (Nat.mod_lt _ (by decide))]
    split
    · rename_i h0
      have : valD [] = 0 := rfl
      rw [this]
      omega
    · rw [decF_val k (m / 10) (by rw [Nat.pow_succ] at h; omega)]
      omega
theorem decF_ne (k m : Nat) : decF (k + 1) m ≠ [] := by rw [decF]; simp
theorem decF_len : ∀ (k m : Nat), (decF k m).length ≤ k
  | 0, _ => by simp [decF]
  | k + 1, m => by
    rw [decF, List.length_append]
    split
    · simp
    · have := decF_len k (m / 10)
      simp only [List.length_cons, List.length_nil]
      omega
/-- The first digit is 0 of 0 alone. -/
theorem decF_head : ∀ (k m : Nat), 0 < m → m < 10 ^ k → ∃ d, (decF k m).head? = some d ∧ d ≠ 48
  | 0, m, h1, h2 => by simp at h2; omega
  | k + 1, m, h1, h2 => by
    rw [decF]
    split
    · rename_i h0
      refine ⟨dgt (m % 10), rfl, fun e => ?_⟩
      have := dgt_toNat (m := m % 10) (Nat.mod_lt _ (by decide))
      rw [e] at this
      have h48 : (48 : UInt8).toNat = 48 := rfl
      omega
    · rename_i h0
      obtain ⟨d, hd, hne⟩ := decF_head k (m / 10) (by omega) (by rw [Nat.pow_succ] at h2; omega)
      refine ⟨d, ?_, hne⟩
      cases hl : decF k (m / 10) with
      | nil => rw [hl] at hd; simp at hd
      | cons a r => rw [hl] at hd; simpa using hd
theorem decF_zero (k : Nat) : decF (k + 1) 0 = [48] := by simp [decF, dgt]
/-- Digits are what the number of them has. -/
theorem valD_lower : ∀ (s : List UInt8), s.all isD = true → ∀ d, s.head? = some d → d ≠ 48 → 10 ^ (s.length - 1) ≤ valD s := by
  intro s
  induction hn : s.length generalizing s with
  | zero => intro _ d hd; rw [List.eq_nil_of_length_eq_zero hn] at hd; cases hd
  | succ n ih =>
    intro hall d hd hne
    obtain ⟨a, c, rfl⟩ : ∃ a c, s = a ++ [c] := ⟨s.dropLast, s.getLast (by intro e; rw [e] at hn; cases hn), (List.dropLast_concat_getLast _).symm⟩
    have hla : a.length = n := by simpa using hn
    rw [List.all_append, Bool.and_eq_true] at hall
    rw [valD_snoc]
    cases n with
    | zero =>
      have : a = [] := List.eq_nil_of_length_eq_zero hla
      subst this
      simp at hd
      subst hd
      simp only [List.all_cons, List.all_nil, Bool.and_true] at hall
      have h1 : 48 ≤ c.toNat ∧ c.toNat ≤ 57 := of_decide_eq_true hall.2
      have h2 : c.toNat ≠ 48 := fun e => hne (UInt8.toNat_inj.1 e)
      simp
      omega
    | succ m =>
      have hd' : a.head? = some d := by
        cases a with
        | nil => cases hla
        | cons x r => simpa using hd
      have := ih a hla hall.1 d hd' hne
      simp only [Nat.add_sub_cancel] at this ⊢
      rw [Nat.pow_succ]
      omega
theorem decF_valD : ∀ (k : Nat) (s : List UInt8), s.all isD = true → s ≠ [] → s.length ≤ k → (∀ d, s.head? = some d → d ≠ 48 ∨ s.length = 1) → decF k (valD s) = s := by
  intro k
  induction k with
  | zero => intro s _ hne hl _; exact absurd (List.eq_nil_of_length_eq_zero (by omega)) hne
  | succ k ih =>
    intro s hall hne hl hh
    obtain ⟨a, c, rfl⟩ : ∃ a c, s = a ++ [c] := ⟨s.dropLast, s.getLast hne, (List.dropLast_concat_getLast _).symm⟩
    rw [List.all_append, Bool.and_eq_true] at hall
    simp only [List.all_cons, List.all_nil, Bool.and_true] at hall
    have hc : 48 ≤ c.toNat ∧ c.toNat ≤ 57 := of_decide_eq_true hall.2
    have e1 : (10 * valD a + (c.toNat - 48)) / 10 = valD a := by omega
    have e2 : (10 * valD a + (c.toNat - 48)) % 10 = c.toNat - 48 := by omega
    have e3 : dgt (c.toNat - 48) = c := UInt8.toNat_inj.1 (by rw [dgt_toNat (by omega)]; omega)
    rw [decF, valD_snoc, e1, e2, e3]
    congr 1
    cases ha : a with
    | nil => simp [valD]
    | cons x r =>
      rw [← ha]
      have hx : a.head? = some x := by rw [ha]; rfl
      have hx2 : (a ++ [c]).head? = some x := by rw [ha]; rfl
      have hne48 : x ≠ 48 := by
        rcases hh x hx2 with h | h
        · exact h
        · rw [ha] at h; simp at h
      have hlow := valD_lower a hall.1 x hx hne48
      have hpos : 0 < valD a := Nat.lt_of_lt_of_le (Nat.pow_pos (by decide)) hlow
      rw [if_neg (by omega)]
      exact ih a hall.1 (by rw [ha]; simp) (by simp at hl; omega) (fun d hd => by rw [hx] at hd; injection hd with hd; subst hd; exact .inl hne48)
theorem isD_ne {c : UInt8} (h : isD c = true) : c ≠ 45 := by
  rintro rfl
  revert h
  decide
/-- A number's digits are read as the number. -/
theorem parN_numT (n : Int) (h1 : -9223372036854775808 ≤ n) (h2 : n ≤ 9223372036854775807) : parN (numT n) = (n, 0) := by
  have hp : n.natAbs < 10 ^ 20 := Nat.lt_of_le_of_lt (show n.natAbs ≤ 9223372036854775808 by omega) (by decide)
  have hall := decF_all 20 n.natAbs
  have hval := decF_val 20 n.natAbs hp
  have hne := decF_ne 19 n.natAbs
  have hhead : ∀ d, (decF 20 n.natAbs).head? = some d → d ≠ 48 ∨ n.natAbs = 0 := fun d hd => by
    rcases Nat.eq_zero_or_pos n.natAbs with h0 | h0
    · exact .inr h0
    · obtain ⟨d', hd', hne'⟩ := decF_head 20 n.natAbs h0 hp
      rw [hd] at hd'
      injection hd' with e
      subst e
      exact .inl hne'
  have h0 : n.natAbs = 0 → decF 20 n.natAbs = [48] := fun e => by rw [e]; exact decF_zero 19
  unfold numT
  generalize decF 20 n.natAbs = s at *
  by_cases hn : n < 0
  · rw [if_pos hn]
    have hm : minus (45 :: s) = true := rfl
    have hr : rest (45 :: s) = s := by unfold rest; rw [if_pos hm]; rfl
    have hf : formN (45 :: s) = true := by
      unfold formN
      rw [hr, hall]
      cases s with
      | nil => exact absurd rfl hne
      | cons c r =>
        have := hhead c rfl
        rcases this with h | h
        · simp [h]
        · omega
    unfold parN
    rw [hf, hr, hm, hval, if_neg (by decide), if_neg (by simp; omega), if_pos rfl]
    congr 1
    omega
  · rw [if_neg hn]
    cases s with
    | nil => exact absurd rfl hne
    | cons c r =>
      have hc : isD c = true := by simp only [List.all_cons, Bool.and_eq_true] at hall; exact hall.1
      have hm : minus (c :: r) = false := by
        unfold minus
        have := isD_ne hc
        simp [this]
      have hr : rest (c :: r) = c :: r := by unfold rest; rw [hm]; rfl
      have hf : formN (c :: r) = true := by
        unfold formN
        rw [hr, hall]
        rcases hhead c rfl with h | h
        · simp [h]
        · rw [h0 h]; decide
      unfold parN
      rw [hf, hr, hm, hval, if_neg (by decide), if_neg (by simp; omega), if_neg (by decide)]
      congr 1
      omega
/-- A text that is read as a number is its digits. -/
theorem numT_parN {s : List UInt8} {n : Int} (h : parN s = (n, 0)) : numT n = s ∧ -9223372036854775808 ≤ n ∧ n ≤ 9223372036854775807 := by
  unfold parN at h
  split at h
  · simp at h
  · rename_i hf0
    have hf : formN s = true := by simpa using hf0
    split at h
    · simp at h
    · rename_i hr
      simp only [Prod.mk.injEq, and_true] at h
      unfold formN at hf
      simp only [Bool.and_eq_true, Bool.not_eq_true'] at hf
      obtain ⟨⟨hf1, hf2⟩, hf3⟩ := hf
      have hne : rest s ≠ [] := fun e => by rw [e] at hf1; simp at hf1
      have hlen : (rest s).length ≤ 20 := by
        rcases Nat.lt_or_ge 20 (rest s).length with hgt | hle
        · exfalso
          cases hrs : rest s with
          | nil => exact hne hrs
          | cons c r =>
            have hc48 : c ≠ 48 := by
              rintro rfl
              rw [hrs] at hf2
              have e48 : s = [48] := by simpa using hf2
              have : rest s = [48] := by rw [e48]; rfl
              rw [this] at hgt
              simp at hgt
            have hlow := valD_lower (rest s) hf3 c (by rw [hrs]; rfl) hc48
            have h2 : 10 ^ 20 ≤ 10 ^ ((rest s).length - 1) := Nat.pow_le_pow_right (by decide) (by omega)
            have h3 : (9223372036854775808 : Nat) < 10 ^ 20 := by decide
            exact hr (.inl (by omega))
        · exact hle
      have hd := decF_valD 20 (rest s) hf3 hne hlen (fun d hd => by
        by_cases h48 : d = 48
        · right
          subst h48
          rw [hd] at hf2
          have e48 : s = [48] := by simpa using hf2
          have : rest s = [48] := by rw [e48]; rfl
          rw [this]
          rfl
        · exact .inl h48)
      have hb : valD (rest s) ≤ 9223372036854775808 ∧ (minus s = false → valD (rest s) < 9223372036854775808) := by
        refine ⟨by omega, fun hm => ?_⟩
        have : ¬ (valD (rest s) = 9223372036854775808) := fun e => hr (.inr ⟨e, hm⟩)
        omega
      cases hm : minus s with
      | true =>
        rw [hm] at h
        simp only [if_true] at h
        have hs : s = 45 :: rest s := by
          unfold rest
          rw [hm, if_pos rfl]
          unfold minus at hm
          cases s with
          | nil => simp at hm
          | cons c r =>
            simp at hm
            rw [hm]
            rfl
        have hpos : 0 < valD (rest s) := by
          rcases Nat.eq_zero_or_pos (valD (rest s)) with h0 | h0
          · exfalso
            cases hrs : rest s with
            | nil => exact hne hrs
            | cons c r =>
              have hc48 : c ≠ 48 := by
                rintro rfl
                rw [hrs] at hf2
                have e48 : s = [48] := by simpa using hf2
                rw [e48] at hm
                exact absurd hm (by decide)
              have hlow := valD_lower (rest s) hf3 c (by rw [hrs]; rfl) hc48
              have := Nat.pow_pos (n := (rest s).length - 1) (show 0 < 10 by decide)
              omega
          · exact h0
        refine ⟨?_, by omega, by omega⟩
        unfold numT
        rw [if_pos (by omega), show n.natAbs = valD (rest s) by omega, hd]
        exact hs.symm
      | false =>
        rw [hm] at h
        simp only [Bool.false_eq_true, if_false] at h
        have hs : rest s = s := by unfold rest; rw [hm]; rfl
        have := hb.2 hm
        refine ⟨?_, by omega, by omega⟩
        unfold numT
        rw [if_neg (by omega), show n.natAbs = valD (rest s) by omega, hd]
        exact hs
theorem numT_len (n : Int) : (numT n).length ≤ 21 := by
  have := decF_len 20 n.natAbs
  unfold numT
  split
  · simp; omega
  · omega
/-! ### texts -/
theorem unF_esc : ∀ (b : List UInt8), unF (esc b) = some b
  | [] => rfl
  | c :: b => by
    have ih := unF_esc b
    have e : esc (c :: b) = (if mark c = true then [92, c] else [c]) ++ esc b := by simp [esc]
    rw [e]
    by_cases hm : mark c = true
    · rw [if_pos hm]
      simp only [List.cons_append, List.nil_append]
      rw [unF, if_neg (by decide), if_pos rfl, if_pos hm, ih]
      rfl
    · rw [if_neg hm]
      have h34 : c ≠ 34 := fun e => hm (by rw [e]; rfl)
      have h92 : c ≠ 92 := fun e => hm (by rw [e]; rfl)
      cases hb : esc b with
      | nil =>
        rw [hb] at ih
        simp only [List.cons_append, List.nil_append, unF]
        rw [if_neg hm]
        simp only [unF] at ih
        injection ih with ih
        rw [ih]
      | cons d r =>
        simp only [List.cons_append, List.nil_append]
        rw [unF, if_neg h34, if_neg h92, ← hb, ih]
        rfl
theorem esc_unF : ∀ (n : Nat) (s b : List UInt8), s.length ≤ n → unF s = some b → esc b = s
  | _, [], b, _, h => by simp only [unF] at h; injection h with h; subst h; rfl
  | _, [c], b, _, h => by
    simp only [unF] at h
    split at h
    · cases h
    · rename_i hm
      injection h with h
      subst h
      simp [esc, hm]
  | 0, _ :: _ :: _, _, hl, _ => by simp at hl
  | n + 1, c :: d :: r, b, hl, h => by
    simp only [unF] at h
    split at h
    · cases h
    · rename_i h34
      split at h
      · rename_i h92
        split at h
        · rename_i hm
          cases hu : unF r with
          | none => rw [hu] at h; cases h
          | some x =>
            rw [hu] at h
            simp only [Option.map_some, Option.some.injEq] at h
            subst h
            have := esc_unF n r x (by simp at hl; omega) hu
            rw [h92]
            simp only [esc, List.flatMap_cons] at this ⊢
            rw [if_pos hm, this]
            rfl
        · cases h
      · rename_i h92
        cases hu : unF (d :: r) with
        | none => rw [hu] at h; cases h
        | some x =>
          rw [hu] at h
          simp only [Option.map_some, Option.some.injEq] at h
          subst h
          have := esc_unF n (d :: r) x (by simp at hl ⊢; omega) hu
          have hm : ¬ mark c = true := by
            unfold mark
            simp [h34, h92]
          simp only [esc, List.flatMap_cons] at this ⊢
          rw [if_neg hm, this]
          rfl
theorem unq_quo (b : List UInt8) : unq (quo b) = some b := by
  unfold unq quo
  rw [if_pos ⟨by simp, rfl, by rw [← List.cons_append, List.getLast?_append]; rfl⟩]
  simp only [List.tail_cons]
  rw [List.dropLast_concat]
  exact unF_esc b
theorem quo_unq {s b : List UInt8} (h : unq s = some b) : quo b = s := by
  unfold unq at h
  split at h
  · rename_i h1
    obtain ⟨h2, h3, h4⟩ := h1
    have h5 := esc_unF _ _ _ (Nat.le_refl _) h
    cases s with
    | nil => simp at h2
    | cons c r =>
      simp at h3
      subst h3
      simp only [List.tail_cons] at h5
      unfold quo
      rw [h5]
      congr 1
      have hr : r ≠ [] := by rintro rfl; simp at h2
      have h6 : r.getLast hr = 34 := by
        rw [List.getLast?_cons] at h4
        simpa [List.getLast?_eq_some_getLast hr] using h4
      have := List.dropLast_concat_getLast hr
      rw [h6] at this
      exact this
  · cases h
end Go.Proofs.Ytnppihlalhaldaa.Ty
