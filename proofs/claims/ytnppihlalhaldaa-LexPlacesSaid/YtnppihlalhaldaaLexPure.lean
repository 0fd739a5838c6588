/-
  Layer 16 as plain functions: a text's tokens.
  Conditions: none.
-/
import Derived.Test.YtnppihlalhaldaaTypPure
namespace Go.Proofs.Ytnppihlalhaldaa.Lx
set_option linter.unusedVariables false
set_option linter.unusedSimpArgs false
open Ty (isD parN)
def isL (c : UInt8) : Bool := decide (97 ≤ c.toNat ∧ c.toNat ≤ 122)
def isH (c : UInt8) : Bool := isD c || decide (97 ≤ c.toNat ∧ c.toNat ≤ 102)
def inW (c : UInt8) : Bool := isL c || isD c || c == 95
def blank (c : UInt8) : Bool := c == 32 || c == 9 || c == 10 || c == 13
def line (c : UInt8) : Bool := c != 10
/-- What is left behind blanks and remarks; true: within a remark. -/
def skip : Bool → List UInt8 → List UInt8
  | _, [] => []
  | true, c :: r => skip (line c) r
  | false, c :: r => if blank c = true then skip false r else if c = 33 then skip true r else c :: r
def hv (c : UInt8) : Nat := if isD c = true then c.toNat - 48 else c.toNat - 87
def hexV (d : List UInt8) : Nat := d.foldl (fun v c => 16 * v % 65536 + hv c) 0
/-- How many bytes, up to the sign that ends a text; true: behind a sign that masks. -/
def qlen : Bool → List UInt8 → Option Nat
  | _, [] => none
  | true, _ :: r => (qlen false r).map (· + 1)
  | false, c :: r => if c = 92 then (qlen true r).map (· + 1) else if c = 34 then some 1 else (qlen false r).map (· + 1)
structure Tk where
  kind : Int
  text : List UInt8
  n : Int
  pl : Nat
def tk0 : Tk := ⟨0, [], 0, 0⟩
def mark (c : UInt8) : Bool := c == 58 || c == 91 || c == 93 || c == 61 || c == 59
/-- The first one is of a kind. -/
def fst (p : UInt8 → Bool) : List UInt8 → Bool
  | [] => false
  | c :: _ => p c
def tokX (c : UInt8) (r : List UInt8) : Bool := c == 48 && fst (· == 120) r && fst isH r.tail
def tokD (c : UInt8) (r : List UInt8) : Bool := isD c || (c == 45 && fst isD r)
def tokC (c : UInt8) (r : List UInt8) : Tk × Int :=
    if isL c = true then (⟨1, c :: r.takeWhile inW, 0, 0⟩, 0)
    else if tokX c r = true then (if 4 < (r.tail.takeWhile isH).length then (tk0, 12) else (⟨3, 48 :: 120 :: r.tail.takeWhile isH, hexV (r.tail.takeWhile isH), 0⟩, 0))
    else if tokD c r = true then (if (parN (c :: r.takeWhile isD)).2 ≠ 0 then (tk0, 12) else (⟨2, c :: r.takeWhile isD, (parN (c :: r.takeWhile isD)).1, 0⟩, 0))
    else if c = 34 then (match qlen false r with | none => (tk0, 12) | some k => (⟨4, c :: r.take k, 0, 0⟩, 0))
    else if c = 35 then (⟨4, c :: r.takeWhile isH, 0, 0⟩, 0)
    else if mark c = true then (⟨5, [c], 0, 0⟩, 0)
    else if c = 46 ∧ fst (· == 46) r = true then (⟨5, [46, 46], 0, 0⟩, 0)
    else (tk0, 11)
def tok : List UInt8 → Tk × Int
  | [] => (tk0, 11)
  | c :: r => tokC c r
/-- The place behind blanks and remarks. -/
def pos (s : List UInt8) (p : Nat) : Nat := s.length - (skip false (s.drop p)).length
/-- The tokens from a place on: with an error its place. -/
def scanF : Nat → List UInt8 → Nat → List Tk × Int × Nat
  | 0, _, _ => ([], 0, 0)
  | k + 1, s, p => if s.length ≤ p then ([], 0, 0) else if (tok (s.drop p)).2 ≠ 0 then ([], (tok (s.drop p)).2, p) else
      if (scanF k s (pos s (p + (tok (s.drop p)).1.text.length))).2.1 ≠ 0 then scanF k s (pos s (p + (tok (s.drop p)).1.text.length))
      else ({ (tok (s.drop p)).1 with pl := p } :: (scanF k s (pos s (p + (tok (s.drop p)).1.text.length))).1, 0, 0)
def scanS (s : List UInt8) : List Tk × Int × Nat := if 8192 < s.length then ([], 3, 0) else scanF (s.length + 1) s (pos s 0)
def textS : List Tk → List UInt8
  | [] => []
  | [t] => t.text
  | t :: u :: r => t.text ++ 32 :: textS (u :: r)
def like (a b : Tk) : Bool := a.kind == b.kind && a.text == b.text && a.n == b.n
def sameL (places : Bool) : List Tk → List Tk → Bool
  | [], [] => true
  | a :: l, b :: m => like a b && (!places || a.pl == b.pl) && sameL places l m
  | _, _ => false

/-! ### plain laws -/
theorem skip_suffix : ∀ (m : Bool) (s : List UInt8), skip m s <:+ s
  | true, [] => List.suffix_refl _
  | false, [] => List.suffix_refl _
  | true, c :: r => by rw [skip]; exact (skip_suffix _ r).trans (List.suffix_cons _ _)
  | false, c :: r => by
    rw [skip]
    split
    · exact (skip_suffix _ r).trans (List.suffix_cons _ _)
    · split
      · exact (skip_suffix _ r).trans (List.suffix_cons _ _)
      · exact List.suffix_refl _
theorem suffix_drop {a b : List UInt8} (h : a <:+ b) : b.drop (b.length - a.length) = a := by
  obtain ⟨t, rfl⟩ := h
  rw [List.length_append, Nat.add_sub_cancel, List.drop_left' rfl]
theorem skip_len (m : Bool) (s : List UInt8) : (skip m s).length ≤ s.length := (skip_suffix m s).length_le
theorem pos_drop (s : List UInt8) (p : Nat) : s.drop (pos s p) = skip false (s.drop p) :=
  suffix_drop ((skip_suffix false (s.drop p)).trans (List.drop_suffix p s))
theorem pos_le (s : List UInt8) (p : Nat) : pos s p ≤ s.length := Nat.sub_le _ _
theorem pos_ge (s : List UInt8) (p : Nat) (hp : p ≤ s.length) : p ≤ pos s p := by
  have := skip_len false (s.drop p)
  rw [List.length_drop] at this
  unfold pos
  omega
theorem pos_skip (s : List UInt8) (p : Nat) : s.length - pos s p = (skip false (s.drop p)).length := by
  have := skip_len false (s.drop p)
  rw [List.length_drop] at this
  unfold pos
  omega
/-- Behind the blanks alone. -/
theorem skip_blanks : ∀ s : List UInt8, skip false s = skip false (s.dropWhile blank)
  | [] => rfl
  | c :: r => by
    rw [List.dropWhile_cons]
    split
    · rename_i h
      rw [skip, if_pos h]
      exact skip_blanks r
    · rfl
/-- Behind a remark. -/
theorem skip_line : ∀ s : List UInt8, skip true s = skip false (s.dropWhile line)
  | [] => rfl
  | c :: r => by
    rw [List.dropWhile_cons, skip]
    split
    · rename_i h
      rw [h]
      exact skip_line r
    · rename_i h
      have hc : c = 10 := by
        unfold line at h
        simpa using h
      subst hc
      rfl
theorem skip_stop {c : UInt8} {r : List UInt8} (h : blank c = false) (h2 : c ≠ 33) : skip false (c :: r) = c :: r := by rw [skip, if_neg (by rw [h]; decide), if_neg h2]
theorem skip_bang (r : List UInt8) : skip false (33 :: r) = skip true (33 :: r) := rfl
theorem skip_head : ∀ (m : Bool) (s : List UInt8) {c : UInt8} {r : List UInt8}, skip m s = c :: r → blank c = false ∧ c ≠ 33
  | m, [], c, r, h => by cases m <;> cases h
  | true, a :: l, c, r, h => by rw [skip] at h; exact skip_head _ l h
  | false, a :: l, c, r, h => by
    rw [skip] at h
    split at h
    · exact skip_head _ l h
    · rename_i h1
      split at h
      · exact skip_head _ l h
      · rename_i h2
        cases h
        exact ⟨by simpa using h1, h2⟩
theorem qlen_le : ∀ (m : Bool) (r : List UInt8) {k : Nat}, qlen m r = some k → 1 ≤ k ∧ k ≤ r.length
  | m, [], k, h => by cases m <;> cases h
  | true, c :: r, k, h => by
    rw [qlen] at h
    cases hq : qlen false r with
    | none => rw [hq] at h; cases h
    | some j =>
      rw [hq] at h
      cases h
      have := qlen_le false r hq
      simp only [List.length_cons]
      omega
  | false, c :: r, k, h => by
    rw [qlen] at h
    split at h
    · cases hq : qlen true r with
      | none => rw [hq] at h; cases h
      | some j =>
        rw [hq] at h
        cases h
        have := qlen_le true r hq
        simp only [List.length_cons]
        omega
    · split at h
      · cases h
        simp
      · cases hq : qlen false r with
        | none => rw [hq] at h; cases h
        | some j =>
          rw [hq] at h
          cases h
          have := qlen_le false r hq
          simp only [List.length_cons]
          omega
theorem tokX_head {c : UInt8} {r : List UInt8} (h : tokX c r = true) : c = 48 ∧ ∃ q, r = 120 :: q ∧ fst isH q = true := by
  unfold tokX at h
  simp only [Bool.and_eq_true, beq_iff_eq] at h
  obtain ⟨⟨h1, h2⟩, h3⟩ := h
  cases r with
  | nil => cases h2
  | cons a q => exact ⟨h1, q, by rw [show a = 120 by simpa [fst] using h2], h3⟩
theorem tw_prefix (p : UInt8 → Bool) (s : List UInt8) : s.takeWhile p <+: s := List.takeWhile_prefix p
/-- A token is what its text begins with. -/
theorem tok_prefix {s : List UInt8} {t : Tk} (h : tok s = (t, 0)) : t.text <+: s ∧ t.text ≠ [] := by
  cases s with
  | nil => simp [tok] at h
  | cons c r =>
    rw [show tok (c :: r) = tokC c r from rfl] at h
    unfold tokC at h
    split at h
    · cases h; exact ⟨List.cons_prefix_cons.2 ⟨rfl, tw_prefix _ _⟩, by simp⟩
    · split at h
      · rename_i hx
        split at h
        · simp at h
        · cases h
          unfold tokX at hx
          simp only [Bool.and_eq_true, beq_iff_eq] at hx
          obtain ⟨⟨rfl, hx⟩, hx2⟩ := hx
          cases r with
          | nil => cases hx
          | cons a q =>
            have ha : a = 120 := by simpa [fst] using hx
            subst ha
            exact ⟨List.cons_prefix_cons.2 ⟨rfl, List.cons_prefix_cons.2 ⟨rfl, tw_prefix _ _⟩⟩, by simp⟩
      · split at h
        · split at h
          · simp at h
          · cases h; exact ⟨List.cons_prefix_cons.2 ⟨rfl, tw_prefix _ _⟩, by simp⟩
        · split at h
          · split at h
            · simp at h
            · cases h; exact ⟨List.cons_prefix_cons.2 ⟨rfl, List.take_prefix _ _⟩, by simp⟩
          · split at h
            · cases h; exact ⟨List.cons_prefix_cons.2 ⟨rfl, tw_prefix _ _⟩, by simp⟩
            · split at h
              · cases h; exact ⟨List.cons_prefix_cons.2 ⟨rfl, List.nil_prefix⟩, by simp⟩
              · split at h
                · rename_i hx
                  cases h
                  obtain ⟨rfl, hx⟩ := hx
                  cases r with
                  | nil => cases hx
                  | cons a q =>
                    have ha : a = 46 := by simpa [fst] using hx
                    subst ha
                    exact ⟨List.cons_prefix_cons.2 ⟨rfl, List.cons_prefix_cons.2 ⟨rfl, List.nil_prefix⟩⟩, by simp⟩
                · simp at h
theorem tok_len {s : List UInt8} (h : (tok s).2 = 0) : 1 ≤ (tok s).1.text.length ∧ (tok s).1.text.length ≤ s.length := by
  have h1 := tok_prefix (s := s) (t := (tok s).1) (by rw [← h])
  exact ⟨List.length_pos_iff.2 h1.2, h1.1.length_le⟩
theorem tok_err {s : List UInt8} (h : (tok s).2 ≠ 0) : (tok s).1 = tk0 := by
  cases s with
  | nil => rfl
  | cons c r =>
    rw [show tok (c :: r) = tokC c r from rfl] at h ⊢
    generalize hx : tokC c r = x at *
    unfold tokC at hx
    repeat' split at hx
    all_goals (subst hx; first | rfl | exact absurd rfl h)
end Go.Proofs.Ytnppihlalhaldaa.Lx
