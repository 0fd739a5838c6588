/-
  Walk: the reference of package lex: one.
  Conditions: none.
-/
import Derived.Test.YtnppihlalhaldaaLexRef2
import Derived.Test.YtnppihlalhaldaaLexMem
import Derived.Test.YtnppihlalhaldaaLexHexed
import Derived.StillTailTactics
import Derived.IntWalk
import Derived.Test.YtnppihlalhaldaaTypRParse
import Derived.Test.YtnppihlalhaldaaOctHexU
namespace Go.Proofs.Ytnppihlalhaldaa
set_option linter.unusedVariables false
set_option linter.unusedSimpArgs false
open Go.RowKit
/-- A token at a place, and its code. -/
def OneP (p : Lx.Tk × Int) (i : Nat) (w : World) (e : Ending) (w' : World) : Prop := e = .returned (.tuple #[tkV p.1.kind p.1.text p.1.n (if p.2 = 0 then (i : Int) else 0), .int .i64 p.2]) ∧ Below w.heap.size w w'
theorem one_mk {p : Lx.Tk × Int} {i : Nat} {w w' : World} {k n : Int} {s : List UInt8} (h : p = (⟨k, s, n, 0⟩, 0)) (hb : Below w.heap.size w w') : OneP p i w (.returned (.tuple #[tkV k s n (i : Int), .int .i64 0])) w' := by subst h; exact ⟨rfl, hb⟩
theorem one_no {p : Lx.Tk × Int} {i : Nat} {w w' : World} {x : Int} (h : p = (Lx.tk0, x)) (hx : x ≠ 0) (hb : Below w.heap.size w w') : OneP p i w (.returned (.tuple #[tkV 0 [] 0 0, .int .i64 x])) w' := by subst h; exact ⟨by simp [Lx.tk0, hx], hb⟩
theorem fst_getD {p : UInt8 → Bool} (h0 : p 0 = false) (s : List UInt8) (j : Nat) : Lx.fst p (s.drop j) = p (s.getD j 0) := by
  by_cases hj : j < s.length
  · rw [drop_cons hj]; rfl
  · rw [List.drop_of_length_le (by omega), List.getD_eq_getElem?_getD, List.getElem?_eq_none (by omega)]
    exact h0.symm
theorem at_z (s : List UInt8) (z : Int) (j : Nat) (hz : z = (j : Int)) (hs : s.length ≤ 1000000) (hj : j ≤ 2000000) (w : World) :
    Calls Try.prog 33 #[.string (T s), .int .i64 z] w fun e w' => e = .returned (.int .u8 ((s.getD j 0).toNat : Int)) ∧ w' = w := by subst hz; exact ref_at s j w hs hj
theorem words_z (s : List UInt8) (z : Int) (j : Nat) (hz : z = (j : Int)) (hs : s.length ≤ 1000000) (hj : j ≤ 2000000) (w : World) :
    Calls Try.prog 32 #[.string (T s), .int .i64 z, .int .i64 0] w fun e w' => e = .returned (.int .i64 (((s.drop j).takeWhile Lx.inW).length : Int)) ∧ w' = w := by subst hz; exact run_words s j w hs hj
theorem digits_z (s : List UInt8) (z : Int) (j : Nat) (hz : z = (j : Int)) (hs : s.length ≤ 1000000) (hj : j ≤ 2000000) (w : World) :
    Calls Try.prog 32 #[.string (T s), .int .i64 z, .int .i64 1] w fun e w' => e = .returned (.int .i64 (((s.drop j).takeWhile Ty.isD).length : Int)) ∧ w' = w := by subst hz; exact run_digits s j w hs hj
theorem hexs_z (s : List UInt8) (z : Int) (j : Nat) (hz : z = (j : Int)) (hs : s.length ≤ 1000000) (hj : j ≤ 2000000) (w : World) :
    Calls Try.prog 32 #[.string (T s), .int .i64 z, .int .i64 2] w fun e w' => e = .returned (.int .i64 (((s.drop j).takeWhile Lx.isH).length : Int)) ∧ w' = w := by subst hz; exact run_hexs s j w hs hj
theorem cut_text {s : List UInt8} {i n : Nat} {t : List UInt8} (h : (s.drop i).take n = t) : (s.take (i + n)).drop i = t := by
  rw [List.drop_take, Nat.add_sub_cancel_left]
  exact h
theorem tokX_at {s : List UInt8} {i : Nat} {c : UInt8} {r : List UInt8} (hr : s.drop (i + 1) = r) : Lx.tokX c r = (c == 48 && (s.getD (i + 1) 0 == 120) && Lx.isH (s.getD (i + 2) 0)) := by
  unfold Lx.tokX
  rw [← hr, List.tail_drop, fst_getD (by decide), fst_getD (by decide)]
theorem tokD_at {s : List UInt8} {i : Nat} {c : UInt8} {r : List UInt8} (hr : s.drop (i + 1) = r) : Lx.tokD c r = (Ty.isD c || (c == 45 && Ty.isD (s.getD (i + 1) 0))) := by
  unfold Lx.tokD
  rw [← hr, fst_getD (by decide)]
theorem dot_at {s : List UInt8} {i : Nat} {r : List UInt8} (hr : s.drop (i + 1) = r) : Lx.fst (· == 46) r = (s.getD (i + 1) 0 == 46) := by rw [← hr, fst_getD (by decide)]
theorem get_dec {b : List UInt8} (h : b.length = 8) : Oct.getIntS b 0 8 = Ty.decS 21 b := by
  have h1 : Oct.cut b (0 : Int).toNat (8 : Int).toNat = b := by
    show (b.drop 0).take 8 = b
    rw [List.drop_zero, List.take_of_length_le (by omega)]
  have hg : Oct.getS b 0 8 = (Oct.le b, 0) := by
    unfold Oct.getS
    rw [if_pos ⟨by decide, by decide, by decide, by omega⟩, if_neg (by omega), h1]
  unfold Oct.getIntS Ty.decS
  rw [hg, if_pos rfl, if_neg (by decide), if_neg (by rw [h]; decide), if_neg (by rw [h]; decide), if_pos (by decide)]
  rfl
theorem nib_hv {c : UInt8} (h : Lx.isH c = true) : Oct.nib c = some (Lx.hv c) := by
  unfold Lx.isH Ty.isD at h
  unfold Oct.nib Lx.hv Ty.isD
  by_cases h1 : 48 ≤ c.toNat ∧ c.toNat ≤ 57
  · rw [if_pos h1, if_pos (by simpa using h1)]
  · have : 97 ≤ c.toNat ∧ c.toNat ≤ 102 := by simpa [h1] using h
    rw [if_neg h1, if_pos this, if_neg (by simpa using h1)]
theorem hex_two {d : List UInt8} (h : d.all Lx.isH = true) (h4 : d.length ≤ 4) : ∃ a b : UInt8, Oct.unhexS (([48, 48, 48, 48] ++ d).drop d.length) = ([a, b], 0) ∧ 256 * a.toNat + b.toNat = Lx.hexV d := by
  have two : ∀ p q u v : UInt8, Lx.isH p = true → Lx.isH q = true → Lx.isH u = true → Lx.isH v = true →
      Oct.unhexS [p, q, u, v] = ([UInt8.ofNat (16 * Lx.hv p + Lx.hv q), UInt8.ofNat (16 * Lx.hv u + Lx.hv v)], 0) := fun p q u v a b c e => by
    unfold Oct.unhexS
    simp only [Oct.pairs, nib_hv a, nib_hv b, nib_hv c, nib_hv e]
  have z : Lx.isH 48 = true := by decide
  have hz : Lx.hv 48 = 0 := by decide
  match d, h, h4 with
  | [], _, _ => exact ⟨_, _, two 48 48 48 48 z z z z, by rw [hz]; decide⟩
  | [p], h, _ =>
    have h1 : Lx.isH p = true := by simpa using h
    have k1 := hv_lt h1
    refine ⟨_, _, two 48 48 48 p z z z h1, ?_⟩
    simp only [Lx.hexV, List.foldl_cons, List.foldl_nil, hz, UInt8.toNat_ofNat']
    omega
  | [p, q], h, _ =>
    have h1 : Lx.isH p = true ∧ Lx.isH q = true := by simpa using h
    have k1 := hv_lt h1.1
    have k2 := hv_lt h1.2
    refine ⟨_, _, two 48 48 p q z z h1.1 h1.2, ?_⟩
    simp only [Lx.hexV, List.foldl_cons, List.foldl_nil, hz, UInt8.toNat_ofNat']
    omega
  | [p, q, u], h, _ =>
    have h1 : Lx.isH p = true ∧ Lx.isH q = true ∧ Lx.isH u = true := by simpa using h
    have k1 := hv_lt h1.1
    have k2 := hv_lt h1.2.1
    have k3 := hv_lt h1.2.2
    refine ⟨_, _, two 48 p q u z h1.1 h1.2.1 h1.2.2, ?_⟩
    simp only [Lx.hexV, List.foldl_cons, List.foldl_nil, hz, UInt8.toNat_ofNat']
    omega
  | [p, q, u, v], h, _ =>
    have h1 : Lx.isH p = true ∧ Lx.isH q = true ∧ Lx.isH u = true ∧ Lx.isH v = true := by simpa using h
    have k1 := hv_lt h1.1
    have k2 := hv_lt h1.2.1
    have k3 := hv_lt h1.2.2.1
    have k4 := hv_lt h1.2.2.2
    refine ⟨_, _, two p q u v h1.1 h1.2.1 h1.2.2.1 h1.2.2.2, ?_⟩
    simp only [Lx.hexV, List.foldl_cons, List.foldl_nil, UInt8.toNat_ofNat']
    omega
end Go.Proofs.Ytnppihlalhaldaa
