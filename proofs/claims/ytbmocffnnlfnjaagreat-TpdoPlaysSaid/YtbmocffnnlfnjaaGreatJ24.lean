/-
  Texts joined: BitLaws, MapBackP, TpdLaws.
  Conditions: none.
-/
import Derived.Test.YtbmocffnnlfnjaaGreatJ02
import Derived.Test.YtbmocffnnlfnjaaGreatJ10
import Derived.Test.YtbmocffnnlfnjaaGreatJ21
/-
  Layer 29, plain laws: what was put is got; what was packed is unpacked.
  Conditions: none.
-/
namespace Go.Proofs.YtbmocffnnlfnjaaGreat.Bt
set_option linter.unusedVariables false
set_option linter.unusedSimpArgs false
theorem byte_bits : ∀ c, c < 256 → ∀ j, j < 8 → ∀ k, k < 8 → (c ||| 2 ^ j) / 2 ^ k % 2 = (if k = j then 1 else c / 2 ^ k % 2) ∧ (c &&& (255 - 2 ^ j)) / 2 ^ k % 2 = (if k = j then 0 else c / 2 ^ k % 2) := by decide +kernel
theorem sb_bit (c : UInt8) (j k : Nat) (hj : j < 8) (hk : k < 8) (x : Bool) : (sb c j x).toNat / 2 ^ k % 2 = if k = j then x.toNat else c.toNat / 2 ^ k % 2 := by
  have hc := c.toNat_lt
  obtain ⟨h1, h2⟩ := byte_bits c.toNat hc j hj k hk
  have hp : 2 ^ j ≤ 2 ^ 7 := Nat.pow_le_pow_right (by decide) (by omega)
  unfold sb
  cases x with
  | true =>
    rw [if_pos rfl, UInt8.toNat_ofNat', Nat.mod_eq_of_lt (Nat.or_lt_two_pow hc (by omega)), h1]
    rfl
  | false =>
    rw [if_neg (by decide), UInt8.toNat_ofNat', Nat.mod_eq_of_lt (Nat.lt_of_le_of_lt Nat.and_le_left hc), h2]
    rfl
theorem bt_setB (l : List UInt8) (i j : Nat) (x : Bool) (hi : i / 8 < l.length) : bt (setB l i x) j = if j = i then x.toNat else bt l j := by
  unfold bt setB
  by_cases e : j / 8 = i / 8
  · have h1 : (l.set (i / 8) (sb (l.getD (i / 8) 0) (i % 8) x)).getD (j / 8) 0 = sb (l.getD (i / 8) 0) (i % 8) x := by rw [e]; simp [List.getD, hi]
    rw [h1, sb_bit _ _ _ (Nat.mod_lt _ (by decide)) (Nat.mod_lt _ (by decide)), e]
    by_cases e2 : j = i
    · rw [if_pos (by rw [e2]), if_pos e2]
    · rw [if_neg (by omega), if_neg e2]
  · have h1 : (l.set (i / 8) (sb (l.getD (i / 8) 0) (i % 8) x)).getD (j / 8) 0 = l.getD (j / 8) 0 := by
      simp [List.getD, List.getElem?_set, show ¬ i / 8 = j / 8 by omega]
    rw [h1, if_neg (by omega)]
theorem bt_putF (l : List UInt8) (p v : Nat) : ∀ (n j : Nat), p + n ≤ 8 * l.length → bt (putF l p v n) j = if p ≤ j ∧ j < p + n then (v.testBit (j - p)).toNat else bt l j
  | 0, j, _ => by rw [putF, if_neg (by omega)]
  | n + 1, j, h => by
    rw [putF, bt_setB _ _ _ _ (by rw [putF_length]; omega), bt_putF l p v n j (by omega)]
    by_cases e : j = p + n
    · rw [if_pos e, if_pos (by omega), show j - p = n by omega]
    · rw [if_neg e]
      by_cases h2 : p ≤ j ∧ j < p + n
      · rw [if_pos h2, if_pos (by omega)]
      · rw [if_neg h2, if_neg (by omega)]
theorem lowF_of (l : List UInt8) (p v : Nat) : ∀ n, (∀ i, i < n → bt l (p + i) = (v.testBit i).toNat) → lowF l p n = v % 2 ^ n
  | 0, _ => by simp [lowF, Nat.mod_one]
  | n + 1, h => by
    have h1 := lowF_of l p v n fun i hi => h i (by omega)
    have h2 := h n (by omega)
    rw [lowF, h1, h2, Nat.mod_pow_succ, Nat.testBit_eq_decide_div_mod_eq]
    have h3 : v / 2 ^ n % 2 < 2 := Nat.mod_lt _ (by decide)
    rcases (show v / 2 ^ n % 2 = 0 ∨ v / 2 ^ n % 2 = 1 by omega) with e | e <;> simp [e]
/-- What was put is got. -/
theorem lowF_putF (l : List UInt8) (p v n : Nat) (h : p + n ≤ 8 * l.length) : lowF (putF l p v n) p n = v % 2 ^ n :=
  lowF_of _ _ _ _ fun i hi => by rw [bt_putF l p v n _ h, if_pos (by omega), Nat.add_sub_cancel_left]
theorem lowF_congr {l l' : List UInt8} (p : Nat) : ∀ n, (∀ i, i < n → bt l (p + i) = bt l' (p + i)) → lowF l p n = lowF l' p n
  | 0, _ => rfl
  | n + 1, h => by rw [lowF, lowF, lowF_congr p n fun i hi => h i (by omega), h n (by omega)]
theorem bt_append (l t : List UInt8) (i : Nat) (h : i < 8 * l.length) : bt (l ++ t) i = bt l i := by
  unfold bt
  have : i / 8 < l.length := by omega
  rw [show (l ++ t).getD (i / 8) 0 = l.getD (i / 8) 0 by simp [List.getD, List.getElem?_append_left this]]
theorem wide_lt {v : Nat} {m : Int} (h : wideS v m = false) (h1 : 1 ≤ m) (h2 : m ≤ 64) (hv : v < 18446744073709551616) : v < 2 ^ m.toNat := by
  unfold wideS at h
  by_cases e : m < 64
  · rw [show decide (m < 64) = true from decide_eq_true e, Bool.true_and] at h
    have h3 : v / 2 ^ m.toNat = 0 := by simpa using h
    exact (Nat.div_eq_zero_iff_lt (Nat.pow_pos (by decide))).1 h3
  · obtain rfl : m = 64 := by omega
    exact hv
/-- What the pack's rounds know. -/
structure Fit (l : List Fld) (n : Nat) : Prop where
  ok : ∀ i, i < l.length → okF (l.getD i Fld.zero) = true
  room : sumK (bitsOf l) l.length ≤ 8 * n
theorem Fit.ws {l : List Fld} {n : Nat} (h : Fit l n) : ∀ i, i < (bitsOf l).length → okW ((bitsOf l).getD i 0) = true := fun i hi => by
  have hi' : i < l.length := by simpa [bitsOf] using hi
  rw [bitsOf_getD]
  have := okF_fits (h.ok i hi')
  exact okW_iff.2 ⟨this.1, this.2.1⟩
theorem Fit.at_ {l : List Fld} {n : Nat} (h : Fit l n) {k : Nat} (hk : k < l.length) : 0 ≤ sumK (bitsOf l) k ∧ sumK (bitsOf l) k + (l.getD k Fld.zero).bits = sumK (bitsOf l) (k + 1) ∧ sumK (bitsOf l) (k + 1) ≤ 8 * n := by
  have hl : (bitsOf l).length = l.length := by simp [bitsOf]
  refine ⟨by have := sumK_mono h.ws k (by omega); omega, by rw [sumK, bitsOf_getD], ?_⟩
  have := sumK_le h.ws (k + 1) (l.length - (k + 1)) (by omega)
  rw [show k + 1 + (l.length - (k + 1)) = l.length by omega] at this
  have := h.room
  omega
/-- Rounds from m on leave alone what lies ahead of their place. -/
theorem packK_later {l : List Fld} {b : List UInt8} (h : Fit l b.length) (k : Nat) : ∀ m, k + m ≤ l.length → ∀ j : Nat, (j : Int) < sumK (bitsOf l) k → bt (packK l b (k + m)) j = bt (packK l b k) j
  | 0, _, j, _ => rfl
  | m + 1, hm, j, hj => by
    have hl : (bitsOf l).length = l.length := by simp [bitsOf]
    obtain ⟨a1, a2, a3⟩ := h.at_ (k := k + m) (by omega)
    have hs := sumK_le h.ws k m (by omega)
    have hf := okF_fits (h.ok (k + m) (by omega))
    rw [← Nat.add_assoc, packK, bt_putF _ _ _ _ _ (by rw [packK_length]; omega), if_neg (by omega)]
    exact packK_later h k m (by omega) j hj
theorem packK_low {l : List Fld} {b : List UInt8} (h : Fit l b.length) {k : Nat} (hk : k < l.length) : lowF (packK l b l.length) (sumK (bitsOf l) k).toNat (l.getD k Fld.zero).bits.toNat = Oct.le (l.getD k Fld.zero).data := by
  obtain ⟨a1, a2, a3⟩ := h.at_ hk
  obtain ⟨f1, f2, f3, f4⟩ := okF_fits (h.ok k hk)
  have e : packK l b l.length = packK l b (k + 1 + (l.length - (k + 1))) := by rw [show k + 1 + (l.length - (k + 1)) = l.length by omega]
  rw [e, lowF_congr (l' := packK l b (k + 1)) _ _ fun i hi => packK_later h (k + 1) _ (by omega) _ (by omega), packK, lowF_putF _ _ _ _ (by rw [packK_length]; omega)]
  have hle := Oct.le_lt (l.getD k Fld.zero).data
  have h8 : (l.getD k Fld.zero).data.length ≤ 8 := by have := bytesS_pos f1 f2; omega
  have hle2 : Oct.le (l.getD k Fld.zero).data < 18446744073709551616 := Nat.lt_of_lt_of_le hle (Nat.le_trans (Nat.pow_le_pow_right (by decide) h8) (by decide))
  exact Nat.mod_eq_of_lt (wide_lt f4 f1 f2 hle2)
theorem unpK_pack {l : List Fld} {b t : List UInt8} (h : Fit l b.length) : ∀ k, k ≤ l.length → unpK (packK l b l.length ++ t) (bitsOf l) k = l.take k
  | 0, _ => by simp [unpK]
  | k + 1, hk => by
    have hk' : k < l.length := by omega
    obtain ⟨a1, a2, a3⟩ := h.at_ hk'
    obtain ⟨f1, f2, f3, f4⟩ := okF_fits (h.ok k hk')
    have e : l.take (k + 1) = l.take k ++ [l.getD k Fld.zero] := by
      rw [List.take_succ_eq_append_getElem hk']
      simp [List.getD, hk']
    rw [unpK, unpK_pack h k (by omega), e]
    congr 2
    unfold fieldS
    rw [bitsOf_getD, lowF_congr (l' := packK l b l.length) _ _ fun i hi => bt_append _ _ _ (by rw [packK_length]; omega), packK_low h hk']
    have e2 : (bytesS (l.getD k Fld.zero).bits).toNat = (l.getD k Fld.zero).data.length := by omega
    rw [e2, Oct.lb_le]
theorem tot_fit {l : List Fld} {z : Int} (h : totS (bitsOf l) (l.map okF) = (z, 0)) : Fit l (bytesS z).toNat ∧ z = sumK (bitsOf l) l.length ∧ z ≤ 64 ∧ totS (bitsOf l) ((bitsOf l).map okW) = (z, 0) ∧ 0 ≤ z := by
  have hl : (bitsOf l).length = l.length := by simp [bitsOf]
  unfold totS at h
  split at h
  · rename_i h1
    split at h
    · simp at h
    · rename_i h2
      simp only [Prod.mk.injEq, and_true] at h
      have hok : ∀ i, i < l.length → okF (l.getD i Fld.zero) = true := fun i hi => by
        have := all_get h1 (i := i) (by simpa using hi)
        rwa [okF_getD] at this
      have hws : ∀ i, i < (bitsOf l).length → okW ((bitsOf l).getD i 0) = true := fun i hi => by
        have hi' : i < l.length := by omega
        rw [bitsOf_getD]
        have := okF_fits (hok i hi')
        exact okW_iff.2 ⟨this.1, this.2.1⟩
      have hz := sumK_mono hws l.length (by omega)
      rw [hl] at h h2
      refine ⟨⟨hok, ?_⟩, h.symm, by omega, ?_, by omega⟩
      · rw [h]
        unfold bytesS
        split <;> omega
      · unfold totS
        rw [if_pos (all_of fun i hi => by rw [okW_getD]; exact hws i (by simpa using hi)), if_neg (by rw [hl]; omega), hl, h]
  · simp at h
/-- What was packed is unpacked, whatever stands behind it. -/
theorem unpack_pack {l : List Fld} {b : List UInt8} (h : packS l = (b, 0)) (t : List UInt8) : unpackS (b ++ t) (bitsOf l) = (l, 0) ∧ (b.length : Int) = bytesS (sumK (bitsOf l) l.length) ∧ 0 ≤ sumK (bitsOf l) l.length ∧ sumK (bitsOf l) l.length ≤ 64 := by
  unfold packS at h
  split at h
  · rename_i h0
    simp only [Prod.mk.injEq, and_true] at h
    obtain ⟨F, e, e64, ht, e0⟩ := tot_fit (z := (totS (bitsOf l) (l.map okF)).1) (by rw [← h0])
    generalize (totS (bitsOf l) (l.map okF)).1 = z at *
    subst h
    have hlen : (packK l (List.replicate (bytesS z).toNat 0) l.length).length = (bytesS z).toNat := by rw [packK_length, List.length_replicate]
    have hb0 : 0 ≤ bytesS z ∧ z ≤ 8 * bytesS z := by unfold bytesS; split <;> omega
    refine ⟨?_, by rw [hlen, ← e]; omega, by omega, by omega⟩
    unfold unpackS
    rw [ht, if_pos rfl, if_neg (by rw [List.length_append, hlen]; dsimp only; omega)]
    congr 1
    have := unpK_pack (b := List.replicate (bytesS z).toNat 0) (t := t) (by rw [List.length_replicate]; exact F) l.length (Nat.le_refl _)
    rw [show (bitsOf l).length = l.length by simp [bitsOf], this, List.take_length]
  · rename_i h0
    simp only [Prod.mk.injEq] at h
    exact absurd h.2 h0
end Go.Proofs.YtbmocffnnlfnjaaGreat.Bt
/-
  Plain laws: what is laid down of a mapping that may go both ways is taken as the values that are there.
  Conditions: none.
-/
namespace Go.Proofs.YtbmocffnnlfnjaaGreat.Mp
set_option linter.unusedVariables false
set_option linter.unusedSimpArgs false
open Ent Dc
theorem kd_fit {t : Int} (h : 0 < (Ty.kd t).bits) : (Ty.kd t).bits ≤ 64 ∧ Bt.bytesS ((Ty.kd t).bits : Int) = ((Ty.kd t).size : Int) ∧ ((Ty.kd t).sgn = true → (Ty.kd t).bits = 8 * (Ty.kd t).size) := by
  rcases Ty.kd_cases t with h1 | ⟨_, h1⟩
  · rcases h1 with rfl | rfl | rfl | rfl | rfl | rfl | rfl | rfl | rfl | rfl | rfl
    all_goals first | exact absurd h (by decide) | exact ⟨by decide, by decide, by decide⟩
  · rw [h1] at h
    exact absurd h (by decide)
theorem num_fit {e : En} (hr : rightS e = 0) (hm : e.map = true) {b : List UInt8} (hv : valS e b = 0) : 1 ≤ (Ty.kd e.type).bits ∧ (Ty.kd e.type).bits ≤ 64 ∧ (b.length : Int) = Bt.bytesS ((Ty.kd e.type).bits : Int) ∧ Bt.wideS (Oct.le b) ((Ty.kd e.type).bits : Int) = false := by
  obtain ⟨_, _, _, _, _, _, _, hl, _⟩ := right_iff hr
  have hpos : 0 < (Ty.kd e.type).bits := by
    rcases Nat.eq_zero_or_pos (Ty.kd e.type).bits with h0 | h0
    · exfalso
      have h1 : Ty.limS e.type = (0, 0, false) := by unfold Ty.limS; rw [if_pos h0]
      unfold limB at hl
      rw [h1] at hl
      simp only [Bool.false_eq_true, if_false] at hl
      unfold sizedB at hl
      rw [hm] at hl
      simp at hl
    · exact h0
  obtain ⟨k1, k2, k3⟩ := kd_fit hpos
  unfold valS at hv
  rw [if_pos hpos] at hv
  unfold numS at hv
  have hd : (Ty.decS e.type b).2 = 0 := by
    rcases Decidable.em ((Ty.decS e.type b).2 = 0) with h | h
    · exact h
    · exfalso
      simp only [h, ne_eq, not_false_eq_true, if_true] at hv
      split at hv
      · simp at hv
      · split at hv <;> simp at hv
  unfold Ty.decS at hd
  rw [if_neg (by omega)] at hd
  split at hd
  · simp at hd
  · split at hd
    · simp at hd
    · rename_i h1 h2
      have hlen : b.length = (Ty.kd e.type).size := by omega
      refine ⟨by omega, k1, by rw [k2, hlen], ?_⟩
      have hlt : Oct.le b < 2 ^ (Ty.kd e.type).bits := by
        split at hd
        · rename_i hs
          have h8 := Oct.le_lt b
          rw [k3 hs, ← hlen, Nat.pow_mul]
          exact h8
        · split at hd
          · simp at hd
          · omega
      unfold Bt.wideS
      rw [Int.toNat_natCast, Nat.div_eq_of_lt hlt]
      simp
theorem sum_take (ws : List Nat) : ∀ k, k ≤ ws.length → Bt.sumK (widthsS ws) k = (sizeS (ws.take k) : Int)
  | 0, _ => by simp [Bt.sumK, sizeS]
  | k + 1, hk => by
    rw [Bt.sumK, sum_take ws k (by omega), size_step (by omega)]
    have : (widthsS ws).getD k 0 = (bt (ws.getD k 0) : Int) := by
      unfold widthsS
      simp [List.getD, List.getElem?_map, List.getElem?_eq_getElem (show k < ws.length by omega)]
    rw [this]
    omega
theorem bits_flds (D : Dic) (ws : List Nat) : Bt.bitsOf (fldsS D ws) = widthsS ws := by
  unfold Bt.bitsOf fldsS widthsS fld
  rw [List.map_map]
  rfl
theorem flds_at (D : Dic) (ws : List Nat) {i : Nat} (hi : i < ws.length) : (fldsS D ws).getD i Bt.Fld.zero = fld D (ws.getD i 0) := by
  unfold fldsS
  simp [List.getD, List.getElem?_map, List.getElem?_eq_getElem hi]
/-- The entry's value, of a word that can be mapped. -/
theorem peek_found {D : Dic} {w k : Nat} (h : findS D.l (ix w) (sb w) = some k) : peekS D (ix w) (sb w) = some (D.v.getD k []) := by
  unfold peekS
  rw [h]
  rfl
theorem back {D : Dic} {ws : List Nat} (hr : ∀ e ∈ D.l, rightS e = 0) (hf : Fine D) (h1 : checkS D.l true ws = 0) (h2 : checkS D.l false ws = 0) :
    ∃ b, gatherS D ws = (b, 0) ∧ scatterS D.l ws b = (vlsK ws (fldsS D ws) ws.length, 0) ∧ (b.length : Int) = Bt.bytesS (sizeS ws : Int) ∧ sizeS ws ≤ 64 := by
  have h64 := check_size h1
  obtain ⟨_, hone⟩ := check_each h1
  have hent : ∀ i, i < ws.length → ∃ k, findS D.l (ix (ws.getD i 0)) (sb (ws.getD i 0)) = some k ∧ k < D.l.length ∧ entOf D.l (ws.getD i 0) = D.l.getD k en0 ∧ ((Ty.kd (D.l.getD k en0).type).bits : Int) = (bt (ws.getD i 0) : Int) ∧ (D.l.getD k en0).map = true ∧ rightS (D.l.getD k en0) = 0 ∧ valS (D.l.getD k en0) (D.v.getD k []) = 0 := by
    intro i hi
    obtain ⟨k, e1, e2, e3, e4, _⟩ := one_found (hone i hi).1
    have hk := (find_some e1).2.1
    refine ⟨k, e1, hk, e2, e4, e3, ?_, hf.ok k hk⟩
    apply hr
    rw [List.getD_eq_getElem?_getD, List.getElem?_eq_getElem hk]
    exact List.getElem_mem hk
  have hok : ∀ i, i < (fldsS D ws).length → Bt.okF ((fldsS D ws).getD i Bt.Fld.zero) = true := by
    intro i hi
    rw [flds_len] at hi
    rw [flds_at D ws hi]
    obtain ⟨k, e1, hk, e2, e4, e3, e5, e6⟩ := hent i hi
    obtain ⟨f1, f2, f3, f4⟩ := num_fit e5 e3 e6
    unfold fld
    rw [peek_found e1, Option.getD_some]
    rw [e4] at f3 f4
    have hb : 1 ≤ (bt (ws.getD i 0) : Int) ∧ (bt (ws.getD i 0) : Int) ≤ 64 := by omega
    unfold Bt.okF Bt.valS Bt.fits
    rw [decide_eq_true (show 1 ≤ (bt (ws.getD i 0) : Int) ∧ (bt (ws.getD i 0) : Int) ≤ 64 ∧ ((D.v.getD k []).length : Int) = Bt.bytesS (bt (ws.getD i 0) : Int) from ⟨hb.1, hb.2, f3⟩)]
    simp only [if_true]
    rw [f4]
    rfl
  have hsum : Bt.sumK (widthsS ws) (widthsS ws).length = (sizeS ws : Int) := by
    rw [widths_len, sum_take ws ws.length (Nat.le_refl _), List.take_length]
  have htot : Bt.totS (Bt.bitsOf (fldsS D ws)) ((fldsS D ws).map Bt.okF) = ((sizeS ws : Int), 0) := by
    unfold Bt.totS
    rw [if_pos (Bt.all_of fun i hi => by rw [Bt.okF_getD]; exact hok i (by simpa using hi)), bits_flds, hsum, if_neg (by omega)]
  have hpk : ∃ b, Bt.packS (fldsS D ws) = (b, 0) := by
    unfold Bt.packS
    rw [htot, if_pos rfl]
    exact ⟨_, rfl⟩
  obtain ⟨b, hb⟩ := hpk
  obtain ⟨u1, u2, _, _⟩ := Bt.unpack_pack hb []
  rw [List.append_nil, bits_flds] at u1
  refine ⟨b, ?_, ?_, ?_, h64⟩
  · unfold gatherS
    rw [h2, if_neg (by omega), hb]
  · unfold scatterS
    rw [h1, if_neg (by omega), u1]
    dsimp only
    rw [if_neg (by omega), if_pos]
    refine allTake_of fun i hi => ?_
    obtain ⟨k, e1, hk, e2, e4, e3, e5, e6⟩ := hent i hi
    unfold takes
    rw [flds_at D ws hi, e2]
    unfold fld
    rw [peek_found e1]
    exact decide_eq_true e6
  · rw [u2, bits_flds, flds_len]
    have := hsum
    rw [widths_len] at this
    rw [this]
/-- The value at a place. -/
theorem back_at {D : Dic} {ws : List Nat} (h1 : checkS D.l true ws = 0) {i : Nat} (hi : i < ws.length) : peekS D (ix (ws.getD i 0)) (sb (ws.getD i 0)) = some ((fldsS D ws).getD i Bt.Fld.zero).data := by
  obtain ⟨_, hone⟩ := check_each h1
  obtain ⟨k, e1, _⟩ := one_found (hone i hi).1
  rw [flds_at D ws hi]
  unfold fld
  rw [peek_found e1]
  rfl
/-- What Scatter may say of a mapping that can be. -/
theorem scatter_code {l : List En} {ws : List Nat} (hr : ∀ e ∈ l, rightS e = 0) (h1 : checkS l true ws = 0) (b : List UInt8) :
    ((scatterS l ws b).2 = 0 ∧ (scatterS l ws b).1.length = ws.length) ∨ ((scatterS l ws b).1 = [] ∧ ((scatterS l ws b).2 = 2 ∨ (scatterS l ws b).2 = 9)) := by
  have h64 := check_size h1
  obtain ⟨_, hone⟩ := check_each h1
  have hwid : ∀ i, i < (widthsS ws).length → Bt.okW ((widthsS ws).getD i 0) = true := by
    intro i hi
    rw [widths_len] at hi
    obtain ⟨k, e1, e2, e3, e4, _⟩ := one_found (hone i hi).1
    have hk := (find_some e1).2.1
    have hm : l.getD k en0 ∈ l := by
      rw [List.getD_eq_getElem?_getD, List.getElem?_eq_getElem hk]
      exact List.getElem_mem hk
    have hrk := hr _ hm
    obtain ⟨f1, f2, _, _⟩ := num_fit hrk e3 (right_iff hrk).2.2.2.2.2.2.2.2
    have e5 : (widthsS ws).getD i 0 = (bt (ws.getD i 0) : Int) := by
      unfold widthsS
      simp [List.getD, List.getElem?_map, List.getElem?_eq_getElem hi]
    rw [e5]
    exact Bt.okW_iff.2 (by omega)
  have hsum : Bt.sumK (widthsS ws) (widthsS ws).length = (sizeS ws : Int) := by
    rw [widths_len, sum_take ws ws.length (Nat.le_refl _), List.take_length]
  have htot : Bt.totS (widthsS ws) ((widthsS ws).map Bt.okW) = ((sizeS ws : Int), 0) := by
    unfold Bt.totS
    rw [if_pos (Bt.all_of fun i hi => by rw [Bt.okW_getD]; exact hwid i (by simpa using hi)), hsum, if_neg (by omega)]
  have hun : Bt.unpackS b (widthsS ws) = if 8 * (b.length : Int) < (sizeS ws : Int) then ([], 2) else (Bt.unpK b (widthsS ws) (widthsS ws).length, 0) := by
    unfold Bt.unpackS
    rw [htot, if_pos rfl]
  unfold scatterS
  rw [h1, if_neg (by omega), hun]
  split
  · right
    exact ⟨by simp, .inl (by simp)⟩
  · dsimp only
    rw [if_neg (by omega)]
    split
    · left
      exact ⟨rfl, by dsimp only; rw [vlsK_length]⟩
    · right
      exact ⟨rfl, .inr rfl⟩
end Go.Proofs.YtbmocffnnlfnjaaGreat.Mp
/-
  Plain laws of layer 32: a mapping that can be is gathered; pulses of a number; triggers and time.
  Conditions: none.
-/
namespace Go.Proofs.YtbmocffnnlfnjaaGreat
set_option linter.unusedVariables false
set_option linter.unusedSimpArgs false
open Go.RowKit
theorem Blk.seven {w : World} {x : Nat} {ty : TypeId} {a b c d e f g : Value} (h : Blk w x ty #[a, b, c, d, e, f, g]) : (w.cell? ⟨x, 0, none⟩ = some a ∧ w.cell? ⟨x, 1, none⟩ = some b ∧ w.cell? ⟨x, 2, none⟩ = some c ∧ w.cell? ⟨x, 3, none⟩ = some d ∧ w.cell? ⟨x, 4, none⟩ = some e ∧ w.cell? ⟨x, 5, none⟩ = some f ∧ w.cell? ⟨x, 6, none⟩ = some g) ∧ w.frozen? ⟨x, 2, none⟩ = false := ⟨⟨h.cell 0, h.cell 1, h.cell 2, h.cell 3, h.cell 4, h.cell 5, h.cell 6⟩, h.frozen 2⟩
end Go.Proofs.YtbmocffnnlfnjaaGreat
namespace Go.Proofs.YtbmocffnnlfnjaaGreat.Mp
set_option linter.unusedVariables false
set_option linter.unusedSimpArgs false
open Ent Dc
theorem gather_ok {D : Dic} {ws : List Nat} (hr : ∀ e ∈ D.l, rightS e = 0) (hf : Fine D) (h2 : checkS D.l false ws = 0) : ∃ b, gatherS D ws = (b, 0) := by
  have h64 := check_size h2
  obtain ⟨_, hone⟩ := check_each h2
  have hent : ∀ i, i < ws.length → ∃ k, findS D.l (ix (ws.getD i 0)) (sb (ws.getD i 0)) = some k ∧ k < D.l.length ∧ entOf D.l (ws.getD i 0) = D.l.getD k en0 ∧ ((Ty.kd (D.l.getD k en0).type).bits : Int) = (bt (ws.getD i 0) : Int) ∧ (D.l.getD k en0).map = true ∧ rightS (D.l.getD k en0) = 0 ∧ valS (D.l.getD k en0) (D.v.getD k []) = 0 := by
    intro i hi
    obtain ⟨k, e1, e2, e3, e4, _⟩ := one_found (hone i hi).1
    have hk := (find_some e1).2.1
    refine ⟨k, e1, hk, e2, e4, e3, ?_, hf.ok k hk⟩
    apply hr
    rw [List.getD_eq_getElem?_getD, List.getElem?_eq_getElem hk]
    exact List.getElem_mem hk
  have hok : ∀ i, i < (fldsS D ws).length → Bt.okF ((fldsS D ws).getD i Bt.Fld.zero) = true := by
    intro i hi
    rw [flds_len] at hi
    rw [flds_at D ws hi]
    obtain ⟨k, e1, hk, e2, e4, e3, e5, e6⟩ := hent i hi
    obtain ⟨f1, f2, f3, f4⟩ := num_fit e5 e3 e6
    unfold fld
    rw [peek_found e1, Option.getD_some]
    rw [e4] at f3 f4
    have hb : 1 ≤ (bt (ws.getD i 0) : Int) ∧ (bt (ws.getD i 0) : Int) ≤ 64 := by omega
    unfold Bt.okF Bt.valS Bt.fits
    rw [decide_eq_true (show 1 ≤ (bt (ws.getD i 0) : Int) ∧ (bt (ws.getD i 0) : Int) ≤ 64 ∧ ((D.v.getD k []).length : Int) = Bt.bytesS (bt (ws.getD i 0) : Int) from ⟨hb.1, hb.2, f3⟩)]
    simp only [if_true]
    rw [f4]
    rfl
  have hsum : Bt.sumK (widthsS ws) (widthsS ws).length = (sizeS ws : Int) := by
    rw [widths_len, sum_take ws ws.length (Nat.le_refl _), List.take_length]
  have htot : Bt.totS (Bt.bitsOf (fldsS D ws)) ((fldsS D ws).map Bt.okF) = ((sizeS ws : Int), 0) := by
    unfold Bt.totS
    rw [if_pos (Bt.all_of fun i hi => by rw [Bt.okF_getD]; exact hok i (by simpa using hi)), bits_flds, hsum, if_neg (by omega)]
  have hpk : ∃ b, Bt.packS (fldsS D ws) = (b, 0) := by
    unfold Bt.packS
    rw [htot, if_pos rfl]
    exact ⟨_, rfl⟩
  obtain ⟨b, hb⟩ := hpk
  exact ⟨b, by unfold gatherS; rw [h2, if_neg (by omega), hb]⟩
end Go.Proofs.YtbmocffnnlfnjaaGreat.Mp
namespace Go.Proofs.YtbmocffnnlfnjaaGreat.Tp
set_option linter.unusedVariables false
set_option linter.unusedSimpArgs false
open Dc
theorem bytes_ok {D : Dic} {ws : List Nat} (v : Nat) (hr : ∀ e ∈ D.l, Ent.rightS e = 0) (hf : Fine D) (hc : Mp.checkS D.l false ws = 0) : (Mp.gatherS D ws).2 = 0 ∧ bytesS D v ws = if Cob.pdo v = 0 ∨ ws.length = 0 then none else some (Mp.gatherS D ws).1 := by
  obtain ⟨b, hb⟩ := Mp.gather_ok hr hf hc
  refine ⟨by rw [hb], ?_⟩
  unfold bytesS
  rw [hb]
  rfl
/-- Pulses of a number. -/
theorem pulses {n : Int} (h1 : 1 ≤ n) (h2 : n ≤ 240) (s : St) : trigS n s = (false, s) ∧ tickS n s = (false, s) ∧ (pulseS n s).1 = decide (n ≤ s.count + 1) ∧ (pulseS n s).2.count = if s.count + 1 < n then s.count + 1 else 0 := by
  unfold trigS tickS pulseS
  rw [if_neg (by omega), if_neg (by omega), if_neg (by omega), if_neg (by omega), if_neg (by omega)]
  refine ⟨rfl, rfl, ?_, ?_⟩
  · by_cases h : s.count + 1 < n
    · rw [if_pos h, decide_eq_false (by omega)]
    · rw [if_neg h, decide_eq_true (by omega)]
  · by_cases h : s.count + 1 < n
    · rw [if_pos h, if_pos h]
    · rw [if_neg h, if_neg h]
theorem mod_step {k n : Nat} (hn : 0 < n) : ((k + 1) % n = if k % n + 1 < n then k % n + 1 else 0) := by
  have h1 := Nat.mod_lt k hn
  have h2 := Nat.mod_add_div k n
  split
  · rename_i h
    rw [show k + 1 = (k % n + 1) + n * (k / n) by omega, Nat.add_mul_mod_self_left, Nat.mod_eq_of_lt h]
  · rename_i h
    have : k + 1 = n * (k / n + 1) := by rw [Nat.mul_add, Nat.mul_one]; omega
    rw [this, Nat.mul_mod_right]
/-- Of a PDO that is sent at triggers and by time. -/
structure Tm (inh : Int) (s : St) (since op : Int) : Prop where
  inh0 : 0 ≤ inh ∧ inh ≤ 65535
  hold : 0 ≤ s.hold ∧ s.hold ≤ inh
  since : inh ≤ since + s.hold ∧ 0 ≤ since
  op : op = -1 ∨ (0 ≤ op ∧ s.due = true ∧ 0 < s.hold ∧ op + s.hold ≤ inh)
theorem Tm.sent {inh ev : Int} (h0 : 0 ≤ inh ∧ inh ≤ 65535) (s : St) : Tm inh (sentS inh ev s) 0 (-1) := ⟨h0, by unfold sentS; dsimp only; omega, by unfold sentS; dsimp only; omega, .inl rfl⟩
theorem Tm.le {inh : Int} {s : St} {since op : Int} (h : Tm inh s since op) : op ≤ inh := by
  obtain ⟨h0, h1, h2, h3⟩ := h
  omega
theorem Tm.trig {inh t : Int} {s : St} {since op : Int} (h : Tm inh s since op) (ht : 254 ≤ t) : ((trigS t s).1 = true ∧ inh ≤ since) ∨ ((trigS t s).1 = false ∧ Tm inh (trigS t s).2 since (if op < 0 then 0 else op)) := by
  obtain ⟨h0, h1, h2, h3⟩ := h
  unfold trigS
  rw [if_pos ht]
  by_cases hh : s.hold = 0
  · rw [if_pos hh]
    exact .inl ⟨rfl, by omega⟩
  · rw [if_neg hh]
    refine .inr ⟨rfl, h0, h1, h2, .inr ⟨?_, rfl, ?_, ?_⟩⟩
    · split <;> omega
    · dsimp only; omega
    · dsimp only
      split <;> omega
theorem Tm.tick {inh t : Int} {s : St} {since op : Int} (h : Tm inh s since op) (ht : 254 ≤ t) : ((tickS t s).1 = true ∧ inh ≤ since + 1) ∨ ((tickS t s).1 = false ∧ Tm inh (tickS t s).2 (since + 1) (if 0 ≤ op then op + 1 else op)) := by
  obtain ⟨h0, h1, h2, h3⟩ := h
  have e : tickS t s = ((downS s).due && decide ((downS s).hold = 0), downS s) := by unfold tickS; rw [if_pos ht]
  have eh : (downS s).hold = if s.hold ≤ 1 then 0 else s.hold - 1 := rfl
  have ed : s.due = true → (downS s).due = true := fun hd => by unfold downS; rw [hd]; rfl
  rw [e]
  dsimp only
  by_cases hs : ((downS s).due && decide ((downS s).hold = 0)) = true
  · left
    refine ⟨hs, ?_⟩
    rw [Bool.and_eq_true, decide_eq_true_eq, eh] at hs
    have h4 := hs.2
    split at h4 <;> omega
  · right
    refine ⟨by simpa using hs, h0, by rw [eh]; split <;> omega, by rw [eh]; split <;> omega, ?_⟩
    rcases h3 with h3 | ⟨h3, h4, h5, h6⟩
    · left
      rw [h3, if_neg (by omega)]
    · right
      have hd := ed h4
      rw [hd, Bool.true_and, decide_eq_true_eq] at hs
      rw [if_pos h3, hd]
      rw [eh] at hs ⊢
      refine ⟨by omega, rfl, ?_, ?_⟩
      · split at hs <;> split <;> omega
      · split at hs <;> split <;> omega
theorem pulse_no {t : Int} (ht : 254 ≤ t) (s : St) : pulseS t s = (false, s) := by unfold pulseS; rw [if_pos ht]
end Go.Proofs.YtbmocffnnlfnjaaGreat.Tp
namespace Go.Proofs.YtbmocffnnlfnjaaGreat
set_option linter.unusedVariables false
set_option linter.unusedSimpArgs false
section
variable {v : Nat} {o : Option (List UInt8)} {inh ev : Int} {s : Tp.St}
theorem outT_no : outT v o (false, s) = [] := rfl
theorem outT_yes : outT v o (true, s) = framesS v o := rfl
theorem stT_no : stT inh ev (false, s) = s := rfl
theorem stT_yes : stT inh ev (true, s) = Tp.sentS inh ev s := rfl
theorem outT_none {x : Bool × Tp.St} : outT v none x = [] := by unfold outT; split <;> rfl
theorem stT_count {x : Bool × Tp.St} : (stT inh ev x).count = x.2.count := by unfold stT; split <;> rfl
theorem pulse_round {mm k : Nat} (hmm : mm < 240) (hk : 1 ≤ k) (hc : s.count = (((k - 1) % (mm + 1) : Nat) : Int)) : (stT inh ev (Tp.pulseS (1 + (mm : Int)) s)).count = ((k % (mm + 1) : Nat) : Int) ∧ outT v o (Tp.pulseS (1 + (mm : Int)) s) = if k % (mm + 1) = 0 then framesS v o else [] := by
  obtain ⟨j, rfl⟩ : ∃ j, k = j + 1 := ⟨k - 1, by omega⟩
  obtain ⟨_, _, h1, h2⟩ := Tp.pulses (n := 1 + (mm : Int)) (by omega) (by omega) s
  rw [show j + 1 - 1 = j from rfl] at hc
  have h3 := Nat.mod_lt j (show 0 < mm + 1 by omega)
  have h4 := Tp.mod_step (k := j) (n := mm + 1) (by omega)
  rw [stT_count, h2, h4]
  unfold outT
  rw [h1]
  by_cases h : j % (mm + 1) + 1 < mm + 1
  · rw [if_pos (by omega), if_pos h, if_neg (by rw [decide_eq_true_eq]; omega), if_neg (by omega)]
    exact ⟨by omega, rfl⟩
  · rw [if_neg (by omega), if_neg h, if_pos (by rw [decide_eq_true_eq]; omega), if_pos rfl]
    exact ⟨rfl, rfl⟩
theorem Tl.right {w : World} {Fp : Nat → Prop} {p gd v : Nat} {t inh ev : Int} {ws : List Nat} {s : Tp.St} {D : Dc.Dic} (h : Tl w Fp p gd v t inh ev ws s D) : ∀ e ∈ D.l, Ent.rightS e = 0 := by
  obtain ⟨F, gv, lc, vc, la, vA, xs, vs, Aw, cw, hr, hp, h1, h2, h3⟩ := h.ex
  exact hr.right
theorem Tl.gather {w : World} {Fp : Nat → Prop} {p gd v : Nat} {t inh ev : Int} {ws : List Nat} {s : Tp.St} {D : Dc.Dic} (h : Tl w Fp p gd v t inh ev ws s D) {A : Option Addr} {n c B : Nat} (hw : RW w B A n c ws) (hB : B ≤ w.heap.size) : Calls Tryz.prog 73 #[.pointer (some ⟨gd, 0, none⟩), .slice A n c] w (PackPost (Mp.gatherS D ws) w) := by
  obtain ⟨F, gv, lc, vc, la, vA, xs, vs, Aw, cw, hr, hp, h1, h2, h3⟩ := h.ex
  exact Gather_any hr h.dflt h.fine.small hw h.words hB
end
end Go.Proofs.YtbmocffnnlfnjaaGreat
