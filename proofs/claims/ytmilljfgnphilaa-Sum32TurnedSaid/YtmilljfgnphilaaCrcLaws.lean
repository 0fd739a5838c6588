/-
  Plain laws of the sum: it is linear, it loses nothing, and bits turned within 32 of what was sealed are seen.
  Conditions: none.
-/
import Derived.Test.YtmilljfgnphilaaCrc
import Derived.Test.YtmilljfgnphilaaOct
namespace Go.Proofs.Ytmilljfgnphilaa.Crc
theorem full_lt : full < 2 ^ 32 := by decide
theorem full_sub (s : Nat) (h : s < 2 ^ 32) : full - s = full ^^^ s := by
  apply Nat.eq_of_testBit_eq
  intro i
  rw [Nat.testBit_xor, show full - s = 2 ^ 32 - (s + 1) by unfold full; omega, Nat.testBit_two_pow_sub_succ h, show full = 2 ^ 32 - 1 by decide, Nat.testBit_two_pow_sub_one]
  by_cases hi : i < 32
  · simp [hi]
  · have : s.testBit i = false := Nat.testBit_lt_two_pow (Nat.lt_of_lt_of_le h (Nat.pow_le_pow_right (by decide) (by omega)))
    simp [hi, this]
theorem xor_cancel (a b : Nat) : a ^^^ (a ^^^ b) = b := by rw [← Nat.xor_assoc, Nat.xor_self, Nat.zero_xor]

theorem byteBits_length (c : Nat) : (byteBits c).length = 8 := by simp [byteBits]
theorem byteBits_xor (x y : Nat) : byteBits (x ^^^ y) = List.zipWith (· ^^^ ·) (byteBits x) (byteBits y) := by
  unfold byteBits
  rw [List.zipWith_map, List.zipWith_self]
  refine List.map_congr_left fun i _ => ?_
  rw [Nat.xor_div_two_pow, xor_mod2]
theorem bitsOf_cons (c : UInt8) (l : List UInt8) : bitsOf (c :: l) = byteBits c.toNat ++ bitsOf l := by simp [bitsOf]
theorem bitsOf_length : ∀ (l : List UInt8), (bitsOf l).length = 8 * l.length
  | [] => rfl
  | c :: l => by rw [bitsOf_cons, List.length_append, byteBits_length, bitsOf_length l, List.length_cons]; omega
theorem bitsOf_append (a b : List UInt8) : bitsOf (a ++ b) = bitsOf a ++ bitsOf b := by simp [bitsOf]
theorem bitsOf_zip : ∀ (a b : List UInt8), a.length = b.length → bitsOf (List.zipWith (· ^^^ ·) a b) = List.zipWith (· ^^^ ·) (bitsOf a) (bitsOf b)
  | [], [], _ => rfl
  | x :: a, y :: b, h => by
    rw [List.zipWith_cons_cons, bitsOf_cons, bitsOf_cons, bitsOf_cons, UInt8.toNat_xor, byteBits_xor, bitsOf_zip a b (by simpa using h), List.zipWith_append (by simp [byteBits_length])]
theorem reg_xor (r s : Nat) (a b : List UInt8) (h : a.length = b.length) : reg r a ^^^ reg s b = reg (r ^^^ s) (List.zipWith (· ^^^ ·) a b) := by
  rw [reg_bits, reg_bits, reg_bits, bitsOf_zip a b h, regb_xor _ _ _ _ (by rw [bitsOf_length, bitsOf_length, h])]
theorem on_eq (s : Nat) (h : s < 2 ^ 32) (l : List UInt8) : on s l = full ^^^ reg (full ^^^ s) l := by
  unfold on
  rw [full_sub s h, full_sub _ (reg_lt l _ (Nat.xor_lt_two_pow full_lt h))]
/-- The sum of the exclusive or of three. -/
theorem on_xor3 (a b c d : List UInt8) (h1 : a.length = b.length) (h2 : b.length = c.length) (hd : d = List.zipWith (· ^^^ ·) (List.zipWith (· ^^^ ·) a b) c) :
    on 0 d = on 0 a ^^^ on 0 b ^^^ on 0 c := by
  have e := reg_xor full full a b h1
  have e' := reg_xor (full ^^^ full) full (List.zipWith (· ^^^ ·) a b) c (by simp [h1, h2])
  rw [← e] at e'
  rw [on_eq 0 (by decide), on_eq 0 (by decide), on_eq 0 (by decide), on_eq 0 (by decide)]
  simp only [Nat.xor_zero] at e' ⊢
  rw [Nat.xor_self, Nat.zero_xor] at e'
  rw [hd, ← e']
  generalize reg full a = x
  generalize reg full b = y
  generalize reg full c = z
  apply Nat.eq_of_testBit_eq
  intro i
  simp only [Nat.testBit_xor]
  cases full.testBit i <;> cases x.testBit i <;> cases y.testBit i <;> cases z.testBit i <;> rfl
theorem zip_self_zero : ∀ (l : List Nat), List.zipWith (· ^^^ ·) l l = List.replicate l.length 0
  | [] => rfl
  | x :: l => by rw [List.zipWith_cons_cons, zip_self_zero l, Nat.xor_self]; rfl
/-- From unlike sums the same bytes lead to unlike ones. -/
theorem on_inj (x y : Nat) (hx : x < 2 ^ 32) (hy : y < 2 ^ 32) (l : List UInt8) (h : on x l = on y l) : x = y := by
  rw [on_eq x hx, on_eq y hy] at h
  have h1 : reg (full ^^^ x) l = reg (full ^^^ y) l := by
    have := congrArg (full ^^^ ·) h
    simpa only [xor_cancel] using this
  rw [reg_bits, reg_bits] at h1
  have h2 := regb_xor (bitsOf l) (bitsOf l) (full ^^^ x) (full ^^^ y) rfl
  rw [h1, Nat.xor_self, zip_self_zero] at h2
  have h3 := regb_zeros _ _ (Nat.xor_lt_two_pow (Nat.xor_lt_two_pow full_lt hx) (Nat.xor_lt_two_pow full_lt hy)) h2.symm
  have h4 := xor_eq_zero h3
  have := congrArg (full ^^^ ·) h4
  simpa only [xor_cancel] using this

/-! ### what was sealed, and turned -/
theorem word_append : ∀ (a b : List Nat), word (a ++ b) = word a + 2 ^ a.length * word b
  | [], b => by simp [word]
  | x :: a, b => by
    simp only [List.cons_append, word, word_append a b, List.length_cons, Nat.pow_succ]
    rw [Nat.mul_add, ← Nat.mul_assoc, Nat.mul_comm 2 (2 ^ a.length), Nat.add_assoc]
theorem word_byte (c : Nat) (h : c < 256) : word (byteBits c) = c := by
  simp only [byteBits, List.range_succ, List.range_zero, List.nil_append, List.cons_append, List.map_cons, List.map_nil, word, Nat.reducePow]
  omega
theorem word_bitsOf : ∀ (l : List UInt8), word (bitsOf l) = Oct.le l
  | [] => rfl
  | c :: l => by rw [bitsOf_cons, word_append, word_byte _ c.toNat_lt, byteBits_length, word_bitsOf l]; rfl
/-- Behind what was sealed the register is always the same. -/
theorem reg_seal (m : List UInt8) : reg full (m ++ Oct.lb 4 (on 0 m)) = Tn 32 full := by
  have hx := reg_lt m full full_lt
  have ho : on 0 m < 2 ^ 32 := on_lt 0 m
  rw [reg_append, reg_bits (Oct.lb 4 (on 0 m)), regb_word _ _ (bitsOf_lt _), word_bitsOf, Oct.le_lb, bitsOf_length, Oct.lb_length, Nat.mod_eq_of_lt ho, on_eq 0 (by decide), Nat.xor_zero,
    Nat.xor_comm full, ← Nat.xor_assoc, Nat.xor_self, Nat.zero_xor]

/-- Bytes of which the bit at place p has been turned. -/
def flip (l : List UInt8) (p : Nat) : List UInt8 := l.set (p / 8) (l.getD (p / 8) 0 ^^^ UInt8.ofNat (2 ^ (p % 8)))
theorem flip_length (l : List UInt8) (p : Nat) : (flip l p).length = l.length := by simp [flip]
theorem byteBits_flip (x i : Nat) (hi : i < 8) : byteBits (x ^^^ 2 ^ i) = (byteBits x).set i ((x / 2 ^ i % 2) ^^^ 1) := by
  apply List.ext_getElem
  · simp [byteBits]
  · intro j h1 h2
    have hj : j < 8 := by simpa [byteBits] using h1
    rw [List.getElem_set]
    simp only [byteBits, List.getElem_map, List.getElem_range]
    rw [Nat.xor_div_two_pow, xor_mod2]
    by_cases hij : i = j
    · subst hij
      rw [if_pos rfl, Nat.div_self (Nat.pow_pos (by decide))]
    · rw [if_neg hij]
      have : 2 ^ i / 2 ^ j % 2 = 0 := by
        rcases Nat.lt_or_ge i j with h | h
        · rw [Nat.div_eq_of_lt (Nat.pow_lt_pow_right (by decide) h)]
        · rw [Nat.pow_div h (by decide)]
          obtain ⟨q, hq⟩ : ∃ q, i - j = q + 1 := ⟨i - j - 1, by omega⟩
          rw [hq, Nat.pow_succ, Nat.mul_mod_left]
      rw [this, Nat.xor_zero]
theorem bitsOf_flip : ∀ (l : List UInt8) (p : Nat), p < 8 * l.length → bitsOf (flip l p) = (bitsOf l).set p ((bitsOf l).getD p 0 ^^^ 1)
  | [], _, h => absurd h (by simp)
  | c :: l, p, h => by
    by_cases hp : p < 8
    · have e : flip (c :: l) p = (c ^^^ UInt8.ofNat (2 ^ p)) :: l := by
        unfold flip
        rw [Nat.div_eq_of_lt hp, Nat.mod_eq_of_lt hp]
        rfl
      have hpow : (UInt8.ofNat (2 ^ p)).toNat = 2 ^ p := by
        rw [UInt8.toNat_ofNat']
        exact Nat.mod_eq_of_lt (Nat.pow_lt_pow_right (by decide) hp)
      have hg : (byteBits c.toNat ++ bitsOf l).getD p 0 = c.toNat / 2 ^ p % 2 := by
        rw [List.getD, List.getElem?_append_left (by rw [byteBits_length]; exact hp)]
        simp [byteBits, hp]
      rw [e, bitsOf_cons, bitsOf_cons, UInt8.toNat_xor, hpow, byteBits_flip _ _ hp, hg, List.set_append_left _ _ (by rw [byteBits_length]; exact hp)]
    · obtain ⟨q, rfl⟩ : ∃ q, p = q + 8 := ⟨p - 8, by omega⟩
      have e : flip (c :: l) (q + 8) = c :: flip l q := by
        unfold flip
        rw [show (q + 8) / 8 = q / 8 + 1 by omega, show (q + 8) % 8 = q % 8 by omega]
        rfl
      have hg : (byteBits c.toNat ++ bitsOf l).getD (q + 8) 0 = (bitsOf l).getD q 0 := by
        rw [List.getD, List.getElem?_append_right (by rw [byteBits_length]; omega), byteBits_length]
        rfl
      rw [e, bitsOf_cons, bitsOf_cons, bitsOf_flip l q (by simp at h; omega), hg, List.set_append_right _ _ (by rw [byteBits_length]; omega), byteBits_length]
      rfl
/-- The bits of 'burst' that have been gone through. -/
def bit (burst i : Nat) : Nat := burst / 2 ^ i % 2
def turn (burst k : Nat) (s : List UInt8) : Nat → List UInt8
  | 0 => s
  | j + 1 => if bit burst j = 1 then flip (turn burst k s j) (k + j) else turn burst k s j
def turned (burst : Nat) : Nat → Bool
  | 0 => false
  | j + 1 => if bit burst j = 1 then true else turned burst j
theorem turn_length (burst k : Nat) (s : List UInt8) : ∀ j, (turn burst k s j).length = s.length
  | 0 => rfl
  | j + 1 => by
    unfold turn
    split
    · rw [flip_length, turn_length burst k s j]
    · exact turn_length burst k s j
theorem bit_lt (b i : Nat) : bit b i < 2 := Nat.mod_lt _ (by decide)
def ws (burst j : Nat) : List Nat := (List.range j).map (bit burst)
theorem ws_succ (burst j : Nat) : ws burst (j + 1) = ws burst j ++ [bit burst j] := by simp [ws, List.range_succ]
theorem zip_set : ∀ (a b : List Nat) (p : Nat), p < b.length → a.length = b.length → List.zipWith (· ^^^ ·) a (b.set p (b.getD p 0 ^^^ 1)) = (List.zipWith (· ^^^ ·) a b).set p ((List.zipWith (· ^^^ ·) a b).getD p 0 ^^^ 1)
  | [], [], _, h, _ => absurd h (by simp)
  | x :: a, y :: b, 0, _, _ => by simp [Nat.xor_assoc]
  | x :: a, y :: b, p + 1, h, hl => by
    have := zip_set a b p (by simpa using h) (by simpa using hl)
    simpa using this
theorem turn_diff (burst k : Nat) (s : List UInt8) : ∀ (j m : Nat), k + j + m = 8 * s.length →
    List.zipWith (· ^^^ ·) (bitsOf s) (bitsOf (turn burst k s j)) = List.replicate k 0 ++ (ws burst j ++ List.replicate m 0)
  | 0, m, h => by
    show List.zipWith (· ^^^ ·) (bitsOf s) (bitsOf s) = _
    rw [zip_self_zero, bitsOf_length, ← h]
    simp [ws]
  | j + 1, m, h => by
    have ih := turn_diff burst k s j (m + 1) (by omega)
    have hb := bit_lt burst j
    unfold turn
    by_cases h1 : bit burst j = 1
    · rw [if_pos h1, bitsOf_flip _ _ (by rw [turn_length]; omega), zip_set _ _ _ (by rw [bitsOf_length, turn_length]; omega) (by rw [bitsOf_length, bitsOf_length, turn_length]), ih, ws_succ, h1]
      have hk : (List.replicate k 0).length ≤ k + j := by simp
      have hw : (ws burst j).length = j := by simp [ws]
      have hg : (List.replicate k 0 ++ (ws burst j ++ List.replicate (m + 1) 0)).getD (k + j) 0 = 0 := by
        rw [List.getD, List.getElem?_append_right hk, List.getElem?_append_right (by rw [hw]; simp)]
        simp [hw]
      rw [hg, List.set_append_right _ _ hk, List.set_append_right _ _ (by rw [hw]; simp)]
      simp [hw, List.replicate_succ]
    · have h0 : bit burst j = 0 := by omega
      rw [if_neg h1, ih, ws_succ, h0]
      simp [List.replicate_succ]
theorem turned_bit (burst : Nat) : ∀ j, turned burst j = true → ∃ b ∈ ws burst j, b ≠ 0
  | 0, h => by simp [turned] at h
  | j + 1, h => by
    unfold turned at h
    rw [ws_succ]
    by_cases h1 : bit burst j = 1
    · exact ⟨bit burst j, by simp, by omega⟩
    · rw [if_neg h1] at h
      obtain ⟨b, hb, hne⟩ := turned_bit burst j h
      exact ⟨b, by simp [hb], hne⟩
theorem not_turned (burst k : Nat) (s : List UInt8) : ∀ j, turned burst j = false → turn burst k s j = s
  | 0, _ => rfl
  | j + 1, h => by
    unfold turned at h
    unfold turn
    by_cases h1 : bit burst j = 1
    · rw [if_pos h1] at h; cases h
    · rw [if_neg h1] at h ⊢; exact not_turned burst k s j h
/-- What was sealed and has been turned is not sealed any more. -/
theorem turned_seen (burst k j : Nat) (b m : List UInt8) (hj : j ≤ 32) (hk : k + j ≤ 8 * (b.length + 4)) (ht : turned burst j = true)
    (h : m ++ Oct.lb 4 (on 0 m) = turn burst k (b ++ Oct.lb 4 (on 0 b)) j) : False := by
  have hl : (b ++ Oct.lb 4 (on 0 b)).length = b.length + 4 := by simp [Oct.lb_length]
  have e1 := reg_seal b
  have e2 := reg_seal m
  rw [h] at e2
  generalize hs : b ++ Oct.lb 4 (on 0 b) = s at *
  obtain ⟨r, hr⟩ : ∃ r, k + j + r = 8 * s.length := ⟨8 * s.length - (k + j), by omega⟩
  have e3 := regb_xor (bitsOf s) (bitsOf (turn burst k s j)) full full (by rw [bitsOf_length, bitsOf_length, turn_length])
  rw [← reg_bits, ← reg_bits, e1, e2, Nat.xor_self, Nat.xor_self, turn_diff burst k s j r hr] at e3
  exact burst' burst k j r hj (turned_bit burst j ht) e3.symm
where
  burst' (burst k j r : Nat) (hj : j ≤ 32) (h1 : ∃ b ∈ ws burst j, b ≠ 0) : regb 0 (List.replicate k 0 ++ (ws burst j ++ List.replicate r 0)) ≠ 0 :=
    Crc.burst k r (ws burst j) (fun b hb => by
      simp only [ws, List.mem_map] at hb
      obtain ⟨i, _, rfl⟩ := hb
      exact bit_lt burst i) (by simpa [ws] using hj) h1
end Go.Proofs.Ytmilljfgnphilaa.Crc
