/-
  The sum of 32 bits as plain numbers: its step is linear over exclusive or and loses nothing, so bits turned within 32 are always seen. No program in sight.
  Conditions: none.
-/
namespace Go.Proofs.Ytmilljfgnphilaa.Crc

def poly : Nat := 3988292384
def full : Nat := 4294967295
/-- One bit: what was shifted out decides. -/
def T (d : Nat) : Nat := d / 2 ^^^ (if d % 2 = 0 then 0 else poly)
def stp (r b : Nat) : Nat := T (r ^^^ b)
def bitsStep : Nat → Nat → Nat → Nat
  | 0, r, _ => r
  | k + 1, r, c => bitsStep k (stp r (c % 2)) (c / 2)
def reg (r : Nat) (l : List UInt8) : Nat := l.foldl (fun r c => bitsStep 8 r c.toNat) r
def on (s : Nat) (l : List UInt8) : Nat := full - reg (full - s) l

theorem poly_lt : poly < 2 ^ 32 := by decide
theorem T_lt (d : Nat) (h : d < 2 ^ 32) : T d < 2 ^ 32 := by
  unfold T
  refine Nat.xor_lt_two_pow (by omega) ?_
  split <;> decide
theorem T_lt31 (d : Nat) (h : d < 2 ^ 33) : T d < 2 ^ 32 := by
  unfold T
  refine Nat.xor_lt_two_pow (by omega) ?_
  split <;> decide
theorem T_zero : T 0 = 0 := rfl
theorem T_even (d : Nat) : T (2 * d) = d := by
  unfold T
  rw [if_pos (by omega), Nat.xor_zero]; omega
theorem xor_mod2 (x y : Nat) : (x ^^^ y) % 2 = (x % 2) ^^^ (y % 2) := by
  have := Nat.xor_mod_two_pow (a := x) (b := y) (n := 1)
  simpa using this
theorem xor_div2 (x y : Nat) : (x ^^^ y) / 2 = (x / 2) ^^^ (y / 2) := by
  have := Nat.xor_div_two_pow (a := x) (b := y) (n := 1)
  simpa using this
theorem T_xor (x y : Nat) : T (x ^^^ y) = T x ^^^ T y := by
  unfold T
  rw [xor_mod2, xor_div2]
  rcases Nat.mod_two_eq_zero_or_one x with hx | hx <;> rcases Nat.mod_two_eq_zero_or_one y with hy | hy <;> rw [hx, hy]
  · simp
  · simp [Nat.xor_assoc]
  · simp only [Nat.xor_zero, Nat.one_ne_zero, if_false, if_true]
    rw [Nat.xor_assoc, Nat.xor_assoc, Nat.xor_comm poly]
  · simp only [Nat.xor_self, Nat.one_ne_zero, if_false, if_true]
    rw [Nat.xor_zero, Nat.xor_assoc, ← Nat.xor_assoc poly, Nat.xor_comm poly, Nat.xor_assoc, Nat.xor_self, Nat.xor_zero]
theorem T_inj0 (d : Nat) (hd : d < 2 ^ 32) (h : T d = 0) : d = 0 := by
  unfold T at h
  by_cases h2 : d % 2 = 0
  · rw [if_pos h2, Nat.xor_zero] at h; omega
  · rw [if_neg h2] at h
    have : d / 2 = poly := by
      have := congrArg (· ^^^ poly) h
      simpa [Nat.xor_assoc] using this
    unfold poly at this; omega
theorem xor_eq_zero {x y : Nat} (h : x ^^^ y = 0) : x = y := by
  have := congrArg (· ^^^ y) h
  simpa [Nat.xor_assoc] using this

/-! ### bits -/
def regb (r : Nat) (bs : List Nat) : Nat := bs.foldl stp r
theorem regb_append (r : Nat) (a b : List Nat) : regb r (a ++ b) = regb (regb r a) b := by simp [regb]
theorem stp_lt (r b : Nat) (hr : r < 2 ^ 32) (hb : b < 2) : stp r b < 2 ^ 32 := T_lt _ (Nat.xor_lt_two_pow hr (by omega))
theorem regb_lt : ∀ (bs : List Nat) (r : Nat), r < 2 ^ 32 → (∀ b ∈ bs, b < 2) → regb r bs < 2 ^ 32
  | [], r, h, _ => h
  | b :: bs, r, h, hb => regb_lt bs (stp r b) (stp_lt r b h (hb b (by simp))) fun c hc => hb c (by simp [hc])
def byteBits (c : Nat) : List Nat := (List.range 8).map fun i => c / 2 ^ i % 2
theorem bitsStep_regb (r c : Nat) : bitsStep 8 r c = regb r (byteBits c) := by
  simp [bitsStep, regb, byteBits, List.range_succ, Nat.div_div_eq_div_mul]
theorem bitsStep_succ : ∀ (k r c : Nat), bitsStep (k + 1) r c = stp (bitsStep k r c) (c / 2 ^ k % 2)
  | 0, r, c => by simp [bitsStep]
  | k + 1, r, c => by
    rw [bitsStep, bitsStep_succ k, bitsStep]
    congr 2
    rw [Nat.div_div_eq_div_mul, Nat.pow_succ, Nat.mul_comm]
theorem bitsStep_lt : ∀ (k r c : Nat), r < 2 ^ 32 → bitsStep k r c < 2 ^ 32
  | 0, _, _, h => h
  | k + 1, r, c, h => bitsStep_lt k _ _ (stp_lt r _ h (Nat.mod_lt _ (by decide)))
def bitsOf (l : List UInt8) : List Nat := l.flatMap fun c => byteBits c.toNat
theorem reg_bits : ∀ (l : List UInt8) (r : Nat), reg r l = regb r (bitsOf l)
  | [], r => rfl
  | c :: l, r => by
    show reg (bitsStep 8 r c.toNat) l = _
    have e : bitsOf (c :: l) = byteBits c.toNat ++ bitsOf l := by simp [bitsOf]
    rw [reg_bits l, bitsStep_regb, e, regb_append]
theorem byteBits_lt (c : Nat) : ∀ b ∈ byteBits c, b < 2 := by
  intro b hb; simp only [byteBits, List.mem_map] at hb
  obtain ⟨i, _, rfl⟩ := hb; exact Nat.mod_lt _ (by decide)
theorem bitsOf_lt (l : List UInt8) : ∀ b ∈ bitsOf l, b < 2 := by
  intro b hb; simp only [bitsOf, List.mem_flatMap] at hb
  obtain ⟨c, _, h⟩ := hb; exact byteBits_lt _ b h
theorem reg_lt (l : List UInt8) (r : Nat) (h : r < 2 ^ 32) : reg r l < 2 ^ 32 := by
  rw [reg_bits]; exact regb_lt _ r h (bitsOf_lt l)
theorem reg_append (r : Nat) (a b : List UInt8) : reg r (a ++ b) = reg (reg r a) b := by simp [reg]
theorem reg_snoc (r : Nat) (a : List UInt8) (c : UInt8) : reg r (a ++ [c]) = bitsStep 8 (reg r a) c.toNat := by simp [reg]
theorem on_lt (s : Nat) (l : List UInt8) : on s l < 2 ^ 32 := by unfold on full; omega
theorem on_append (s : Nat) (a b : List UInt8) : on s (a ++ b) = on (on s a) b := by
  have h := reg_lt a (full - s) (by unfold full; omega)
  unfold on
  rw [reg_append]
  congr 2
  unfold full at *; omega

/-! ### the difference of two runs -/
theorem regb_xor : ∀ (a b : List Nat) (r s : Nat), a.length = b.length → regb r a ^^^ regb s b = regb (r ^^^ s) (List.zipWith (· ^^^ ·) a b)
  | [], [], r, s, _ => rfl
  | x :: a, y :: b, r, s, h => by
    show regb (stp r x) a ^^^ regb (stp s y) b = regb (stp (r ^^^ s) (x ^^^ y)) (List.zipWith (· ^^^ ·) a b)
    rw [regb_xor a b _ _ (by simpa using h)]
    congr 1
    unfold stp
    rw [← T_xor]
    congr 1
    rw [Nat.xor_assoc, Nat.xor_assoc, ← Nat.xor_assoc x, Nat.xor_comm x s, Nat.xor_assoc s]
theorem regb_zeros : ∀ (n d : Nat), d < 2 ^ 32 → regb d (List.replicate n 0) = 0 → d = 0
  | 0, d, _, h => h
  | n + 1, d, hd, h => by
    have h' : regb (stp d 0) (List.replicate n 0) = 0 := by simpa [List.replicate_succ, regb] using h
    have := regb_zeros n (stp d 0) (stp_lt d 0 hd (by decide)) h'
    unfold stp at this
    rw [Nat.xor_zero] at this
    exact T_inj0 d hd this
theorem regb_zero_zeros (n : Nat) : regb 0 (List.replicate n 0) = 0 := by
  induction n with
  | zero => rfl
  | succ n ih => rw [List.replicate_succ]; exact ih
/-- The bits as a number, the lowest one first. -/
def word : List Nat → Nat
  | [] => 0
  | b :: bs => b + 2 * word bs
theorem word_lt : ∀ (bs : List Nat), (∀ b ∈ bs, b < 2) → word bs < 2 ^ bs.length
  | [], _ => by simp [word]
  | b :: bs, h => by
    have := word_lt bs fun c hc => h c (by simp [hc])
    have h0 := h b (by simp)
    simp only [word, List.length_cons, Nat.pow_succ]; omega
theorem word_zero : ∀ (bs : List Nat), word bs = 0 → ∀ b ∈ bs, b = 0
  | [], _ => by simp
  | b :: bs, h => by
    simp only [word] at h
    intro c hc
    rcases List.mem_cons.1 hc with rfl | hc
    · omega
    · exact word_zero bs (by omega) c hc
theorem add_double_xor (b w : Nat) (hb : b < 2) : b + 2 * w = b ^^^ (2 * w) := by
  apply Nat.eq_of_testBit_eq
  intro i
  rw [Nat.testBit_xor]
  rcases i with _ | i
  · simp only [Nat.testBit_zero]; rcases (show b = 0 ∨ b = 1 by omega) with rfl | rfl <;> simp <;> omega
  · rw [Nat.testBit_succ, Nat.testBit_succ, Nat.testBit_succ]
    rw [show (b + 2 * w) / 2 = w by omega, show b / 2 = 0 by omega, show 2 * w / 2 = w by omega]
    simp
def Tn : Nat → Nat → Nat
  | 0, d => d
  | n + 1, d => Tn n (T d)
theorem Tn_lt : ∀ (n d : Nat), d < 2 ^ 32 → Tn n d < 2 ^ 32
  | 0, _, h => h
  | n + 1, d, h => Tn_lt n (T d) (T_lt d h)
theorem Tn_inj0 : ∀ (n d : Nat), d < 2 ^ 32 → Tn n d = 0 → d = 0
  | 0, _, _, h => h
  | n + 1, d, hd, h => T_inj0 d hd (Tn_inj0 n (T d) (T_lt d hd) h)
theorem Tn_xor : ∀ (n x y : Nat), Tn n (x ^^^ y) = Tn n x ^^^ Tn n y
  | 0, _, _ => rfl
  | n + 1, x, y => by simp only [Tn, T_xor, Tn_xor n]
/-- Bits fed one by one are as the whole number fed at once, then so many bits that are 0. -/
theorem regb_word : ∀ (bs : List Nat) (x : Nat), (∀ b ∈ bs, b < 2) → regb x bs = Tn bs.length (x ^^^ word bs)
  | [], x, _ => by simp [regb, Tn, word]
  | b :: bs, x, h => by
    show regb (stp x b) bs = Tn bs.length (T (x ^^^ (b + 2 * word bs)))
    rw [regb_word bs _ fun c hc => h c (by simp [hc]), add_double_xor b _ (h b (by simp)), ← Nat.xor_assoc, T_xor, T_even]
    rfl
theorem T_inj {x y : Nat} (n : Nat) (hx : x < 2 ^ 32) (hy : y < 2 ^ 32) (h : Tn n x = Tn n y) : x = y := by
  apply xor_eq_zero
  apply Tn_inj0 n _ (Nat.xor_lt_two_pow hx hy)
  rw [Tn_xor, h, Nat.xor_self]
/-- Bits of which some are 1, no more than 32 of them, among others that are 0: they are seen. -/
theorem burst (k m : Nat) (w : List Nat) (hw : ∀ b ∈ w, b < 2) (hl : w.length ≤ 32) (h1 : ∃ b ∈ w, b ≠ 0) :
    regb 0 (List.replicate k 0 ++ (w ++ List.replicate m 0)) ≠ 0 := by
  intro h
  rw [regb_append, regb_zero_zeros, regb_append] at h
  have h0 := regb_zeros m _ (regb_lt w 0 (by decide) hw) h
  rw [regb_word w 0 hw, Nat.zero_xor] at h0
  have hlt : word w < 2 ^ 32 := Nat.lt_of_lt_of_le (word_lt w hw) (Nat.pow_le_pow_right (by decide) hl)
  obtain ⟨b, hb, hne⟩ := h1
  exact hne (word_zero w (Tn_inj0 _ _ hlt h0) b hb)

end Go.Proofs.Ytmilljfgnphilaa.Crc
