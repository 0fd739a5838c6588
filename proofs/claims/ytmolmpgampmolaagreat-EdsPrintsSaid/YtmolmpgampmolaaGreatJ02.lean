/-
  Texts joined: LexPure, EntPure, DicPure, Base.
  Conditions: none.
-/
import Derived.Test.YtmolmpgampmolaaGreatJ01
import Derived.WalkKit
import Derived.WalkSpells
import Derived.WalkLawsBesides
import Derived.Lib.Hide
import Derived.Deep.AppendLies
import Derived.Deep.Draws
import Derived.Laws.CopyOwn
/-
  Layer 16 as plain functions: a text's tokens.
  Conditions: none.
-/
namespace Go.Proofs.YtmolmpgampmolaaGreat.Lx
set_option linter.unusedVariables false
set_option linter.unusedSimpArgs false
open Ty (isD parN)
def isL (c : UInt8) : Bool := decide (97 ≤ c.toNat ∧ c.toNat ≤ 122)
def isH (c : UInt8) : Bool := isD c || decide (97 ≤ c.toNat ∧ c.toNat ≤ 102)
def inW (c : UInt8) : Bool := isL c || isD c || c == 95
def blank (c : UInt8) : Bool := c == 32 || c == 9 || c == 10 || c == 13
def line (c : UInt8) : Bool := c != 10
/-- What is left behind blanks and remarks; true: within a remark. -/
def skip : Bool → List UInt8 → List UInt8
  | _, [] => []
  | true, c :: r => skip (line c) r
  | false, c :: r => if blank c = true then skip false r else if c = 33 then skip true r else c :: r
def hv (c : UInt8) : Nat := if isD c = true then c.toNat - 48 else c.toNat - 87
def hexV (d : List UInt8) : Nat := d.foldl (fun v c => 16 * v % 65536 + hv c) 0
/-- How many bytes, up to the sign that ends a text; true: behind a sign that masks. -/
def qlen : Bool → List UInt8 → Option Nat
  | _, [] => none
  | true, _ :: r => (qlen false r).map (· + 1)
  | false, c :: r => if c = 92 then (qlen true r).map (· + 1) else if c = 34 then some 1 else (qlen false r).map (· + 1)
structure Tk where
  kind : Int
  text : List UInt8
  n : Int
  pl : Nat
def tk0 : Tk := ⟨0, [], 0, 0⟩
def mark (c : UInt8) : Bool := c == 58 || c == 91 || c == 93 || c == 61 || c == 59
/-- The first one is of a kind. -/
def fst (p : UInt8 → Bool) : List UInt8 → Bool
  | [] => false
  | c :: _ => p c
def tokX (c : UInt8) (r : List UInt8) : Bool := c == 48 && fst (· == 120) r && fst isH r.tail
def tokD (c : UInt8) (r : List UInt8) : Bool := isD c || (c == 45 && fst isD r)
def tokC (c : UInt8) (r : List UInt8) : Tk × Int :=
    if isL c = true then (⟨1, c :: r.takeWhile inW, 0, 0⟩, 0)
    else if tokX c r = true then (if 4 < (r.tail.takeWhile isH).length then (tk0, 12) else (⟨3, 48 :: 120 :: r.tail.takeWhile isH, hexV (r.tail.takeWhile isH), 0⟩, 0))
    else if tokD c r = true then (if (parN (c :: r.takeWhile isD)).2 ≠ 0 then (tk0, 12) else (⟨2, c :: r.takeWhile isD, (parN (c :: r.takeWhile isD)).1, 0⟩, 0))
    else if c = 34 then (match qlen false r with | none => (tk0, 12) | some k => (⟨4, c :: r.take k, 0, 0⟩, 0))
    else if c = 35 then (⟨4, c :: r.takeWhile isH, 0, 0⟩, 0)
    else if mark c = true then (⟨5, [c], 0, 0⟩, 0)
    else if c = 46 ∧ fst (· == 46) r = true then (⟨5, [46, 46], 0, 0⟩, 0)
    else (tk0, 11)
def tok : List UInt8 → Tk × Int
  | [] => (tk0, 11)
  | c :: r => tokC c r
/-- The place behind blanks and remarks. -/
def pos (s : List UInt8) (p : Nat) : Nat := s.length - (skip false (s.drop p)).length
/-- The tokens from a place on: with an error its place. -/
def scanF : Nat → List UInt8 → Nat → List Tk × Int × Nat
  | 0, _, _ => ([], 0, 0)
  | k + 1, s, p => if s.length ≤ p then ([], 0, 0) else if (tok (s.drop p)).2 ≠ 0 then ([], (tok (s.drop p)).2, p) else
      if (scanF k s (pos s (p + (tok (s.drop p)).1.text.length))).2.1 ≠ 0 then scanF k s (pos s (p + (tok (s.drop p)).1.text.length))
      else ({ (tok (s.drop p)).1 with pl := p } :: (scanF k s (pos s (p + (tok (s.drop p)).1.text.length))).1, 0, 0)
def scanS (s : List UInt8) : List Tk × Int × Nat := if 8192 < s.length then ([], 3, 0) else scanF (s.length + 1) s (pos s 0)
def textS : List Tk → List UInt8
  | [] => []
  | [t] => t.text
  | t :: u :: r => t.text ++ 32 :: textS (u :: r)
def like (a b : Tk) : Bool := a.kind == b.kind && a.text == b.text && a.n == b.n
def sameL (places : Bool) : List Tk → List Tk → Bool
  | [], [] => true
  | a :: l, b :: m => like a b && (!places || a.pl == b.pl) && sameL places l m
  | _, _ => false

/-! ### plain laws -/
theorem skip_suffix : ∀ (m : Bool) (s : List UInt8), skip m s <:+ s
  | true, [] => List.suffix_refl _
  | false, [] => List.suffix_refl _
  | true, c :: r => by rw [skip]; exact (skip_suffix _ r).trans (List.suffix_cons _ _)
  | false, c :: r => by
    rw [skip]
    split
    · exact (skip_suffix _ r).trans (List.suffix_cons _ _)
    · split
      · exact (skip_suffix _ r).trans (List.suffix_cons _ _)
      · exact List.suffix_refl _
theorem suffix_drop {a b : List UInt8} (h : a <:+ b) : b.drop (b.length - a.length) = a := by
  obtain ⟨t, rfl⟩ := h
  rw [List.length_append, Nat.add_sub_cancel, List.drop_left' rfl]
theorem skip_len (m : Bool) (s : List UInt8) : (skip m s).length ≤ s.length := (skip_suffix m s).length_le
theorem pos_drop (s : List UInt8) (p : Nat) : s.drop (pos s p) = skip false (s.drop p) :=
  suffix_drop ((skip_suffix false (s.drop p)).trans (List.drop_suffix p s))
theorem pos_le (s : List UInt8) (p : Nat) : pos s p ≤ s.length := Nat.sub_le _ _
theorem pos_ge (s : List UInt8) (p : Nat) (hp : p ≤ s.length) : p ≤ pos s p := by
  have := skip_len false (s.drop p)
  rw [List.length_drop] at this
  unfold pos
  omega
theorem pos_skip (s : List UInt8) (p : Nat) : s.length - pos s p = (skip false (s.drop p)).length := by
  have := skip_len false (s.drop p)
  rw [List.length_drop] at this
  unfold pos
  omega
/-- Behind the blanks alone. -/
theorem skip_blanks : ∀ s : List UInt8, skip false s = skip false (s.dropWhile blank)
  | [] => rfl
  | c :: r => by
    rw [List.dropWhile_cons]
    split
    · rename_i h
      rw [skip, if_pos h]
      exact skip_blanks r
    · rfl
/-- Behind a remark. -/
theorem skip_line : ∀ s : List UInt8, skip true s = skip false (s.dropWhile line)
  | [] => rfl
  | c :: r => by
    rw [List.dropWhile_cons, skip]
    split
    · rename_i h
      rw [h]
      exact skip_line r
    · rename_i h
      have hc : c = 10 := by
        unfold line at h
        simpa using h
      subst hc
      rfl
theorem skip_stop {c : UInt8} {r : List UInt8} (h : blank c = false) (h2 : c ≠ 33) : skip false (c :: r) = c :: r := by rw [skip, if_neg (by rw [h]; decide), if_neg h2]
theorem skip_bang (r : List UInt8) : skip false (33 :: r) = skip true (33 :: r) := rfl
theorem skip_head : ∀ (m : Bool) (s : List UInt8) {c : UInt8} {r : List UInt8}, skip m s = c :: r → blank c = false ∧ c ≠ 33
  | m, [], c, r, h => by cases m <;> cases h
  | true, a :: l, c, r, h => by rw [skip] at h; exact skip_head _ l h
  | false, a :: l, c, r, h => by
    rw [skip] at h
    split at h
    · exact skip_head _ l h
    · rename_i h1
      split at h
      · exact skip_head _ l h
      · rename_i h2
        cases h
        exact ⟨by simpa using h1, h2⟩
theorem qlen_le : ∀ (m : Bool) (r : List UInt8) {k : Nat}, qlen m r = some k → 1 ≤ k ∧ k ≤ r.length
  | m, [], k, h => by cases m <;> cases h
  | true, c :: r, k, h => by
    rw [qlen] at h
    cases hq : qlen false r with
    | none => rw [hq] at h; cases h
    | some j =>
      rw [hq] at h
      cases h
      have := qlen_le false r hq
      simp only [List.length_cons]
      omega
  | false, c :: r, k, h => by
    rw [qlen] at h
    split at h
    · cases hq : qlen true r with
      | none => rw [hq] at h; cases h
      | some j =>
        rw [hq] at h
        cases h
        have := qlen_le true r hq
        simp only [List.length_cons]
        omega
    · split at h
      · cases h
        simp
      · cases hq : qlen false r with
        | none => rw [hq] at h; cases h
        | some j =>
          rw [hq] at h
          cases h
          have := qlen_le false r hq
          simp only [List.length_cons]
          omega
theorem tokX_head {c : UInt8} {r : List UInt8} (h : tokX c r = true) : c = 48 ∧ ∃ q, r = 120 :: q ∧ fst isH q = true := by
  unfold tokX at h
  simp only [Bool.and_eq_true, beq_iff_eq] at h
  obtain ⟨⟨h1, h2⟩, h3⟩ := h
  cases r with
  | nil => cases h2
  | cons a q => exact ⟨h1, q, by rw [show a = 120 by simpa [fst] using h2], h3⟩
theorem tw_prefix (p : UInt8 → Bool) (s : List UInt8) : s.takeWhile p <+: s := List.takeWhile_prefix p
/-- A token is what its text begins with. -/
theorem tok_prefix {s : List UInt8} {t : Tk} (h : tok s = (t, 0)) : t.text <+: s ∧ t.text ≠ [] := by
  cases s with
  | nil => simp [tok] at h
  | cons c r =>
    rw [show tok (c :: r) = tokC c r from rfl] at h
    unfold tokC at h
    split at h
    · cases h; exact ⟨List.cons_prefix_cons.2 ⟨rfl, tw_prefix _ _⟩, by simp⟩
    · split at h
      · rename_i hx
        split at h
        · simp at h
        · cases h
          unfold tokX at hx
          simp only [Bool.and_eq_true, beq_iff_eq] at hx
          obtain ⟨⟨rfl, hx⟩, hx2⟩ := hx
          cases r with
          | nil => cases hx
          | cons a q =>
            have ha : a = 120 := by simpa [fst] using hx
            subst ha
            exact ⟨List.cons_prefix_cons.2 ⟨rfl, List.cons_prefix_cons.2 ⟨rfl, tw_prefix _ _⟩⟩, by simp⟩
      · split at h
        · split at h
          · simp at h
          · cases h; exact ⟨List.cons_prefix_cons.2 ⟨rfl, tw_prefix _ _⟩, by simp⟩
        · split at h
          · split at h
            · simp at h
            · cases h; exact ⟨List.cons_prefix_cons.2 ⟨rfl, List.take_prefix _ _⟩, by simp⟩
          · split at h
            · cases h; exact ⟨List.cons_prefix_cons.2 ⟨rfl, tw_prefix _ _⟩, by simp⟩
            · split at h
              · cases h; exact ⟨List.cons_prefix_cons.2 ⟨rfl, List.nil_prefix⟩, by simp⟩
              · split at h
                · rename_i hx
                  cases h
                  obtain ⟨rfl, hx⟩ := hx
                  cases r with
                  | nil => cases hx
                  | cons a q =>
                    have ha : a = 46 := by simpa [fst] using hx
                    subst ha
                    exact ⟨List.cons_prefix_cons.2 ⟨rfl, List.cons_prefix_cons.2 ⟨rfl, List.nil_prefix⟩⟩, by simp⟩
                · simp at h
theorem tok_len {s : List UInt8} (h : (tok s).2 = 0) : 1 ≤ (tok s).1.text.length ∧ (tok s).1.text.length ≤ s.length := by
  have h1 := tok_prefix (s := s) (t := (tok s).1) (by rw [← h])
  exact ⟨List.length_pos_iff.2 h1.2, h1.1.length_le⟩
theorem tok_err {s : List UInt8} (h : (tok s).2 ≠ 0) : (tok s).1 = tk0 := by
  cases s with
  | nil => rfl
  | cons c r =>
    rw [show tok (c :: r) = tokC c r from rfl] at h ⊢
    generalize hx : tokC c r = x at *
    unfold tokC at hx
    repeat' split at hx
    all_goals (subst hx; first | rfl | exact absurd rfl h)
end Go.Proofs.YtmolmpgampmolaaGreat.Lx
/-
  Layer 14 as plain functions: one entry of a dictionary.
  Conditions: none.
-/
namespace Go.Proofs.YtmolmpgampmolaaGreat.Ent
set_option linter.unusedVariables false
set_option linter.unusedSimpArgs false
structure En where
  index : Int
  sub : Int
  name : List UInt8
  type : Int
  access : Int
  map : Bool
  store : Bool
  max : Int
  low : Int
  high : Int
  dflt : List UInt8
def low (c : UInt8) : Bool := decide (97 ≤ c.toNat ∧ c.toNat ≤ 122)
def inner (c : UInt8) : Bool := low c || Ty.isD c || c == 95
def nameB (s : List UInt8) : Bool := decide (1 ≤ s.length ∧ s.length ≤ 16) && (match s with | [] => false | c :: _ => low c) && s.all inner
/-- Why bytes are no value of an entry. -/
def numS (e : En) (b : List UInt8) : Int :=
  if (Ty.decS e.type b).2 = 2 then 101122067 else if (Ty.decS e.type b).2 = 3 then 101122066 else if (Ty.decS e.type b).2 ≠ 0 then 101253168
  else if (Ty.decS e.type b).1 < e.low then 101253170 else if e.high < (Ty.decS e.type b).1 then 101253169 else 0
def valS (e : En) (b : List UInt8) : Int :=
  if 0 < (Ty.kd e.type).bits then numS e b
  else if Ty.checkS e.type e.max b = 0 then 0 else if Ty.checkS e.type e.max b = 3 then 101122066 else if Ty.checkS e.type e.max b = 4 then 101253168 else 100925511
def flagsB (e : En) : Bool := if e.access = 1 then !e.store && !e.map else if e.access = 2 then !e.store else decide (e.access = 3 ∨ e.access = 4)
def numberedB (e : En) (lo hi : Int) : Bool := decide (e.max = 0 ∧ lo ≤ e.low ∧ e.low ≤ e.high ∧ e.high ≤ hi)
def sizedB (e : En) : Bool := decide (e.low = 0 ∧ e.high = 0 ∧ 1 ≤ e.max ∧ e.max ≤ 256) && !e.map
def limB (e : En) : Bool := if (Ty.limS e.type).2.2 = true then numberedB e (Ty.limS e.type).1 (Ty.limS e.type).2.1 else sizedB e
/-- What is wrong of an entry. -/
def rightS (e : En) : Int :=
  if e.index < 1 ∨ 65535 < e.index ∨ e.sub < 0 ∨ 255 < e.sub then 9
  else if nameB e.name = false then 14
  else if (Ty.kd e.type).name = [] then 15
  else if flagsB e = false then 1
  else if limB e = false then 1
  else if valS e e.dflt ≠ 0 then 4 else 0
def readS (e : En) : Int := if e.access = 3 then 100728833 else 0
def writS (e : En) : Int := if e.access = 1 ∨ e.access = 2 then 100728834 else 0
def befB (a b : En) : Bool := if a.index = b.index then decide (a.sub < b.sub) else decide (a.index < b.index)
def sameB (a b : En) : Bool := a.index == b.index && a.sub == b.sub && a.name == b.name && a.type == b.type && a.access == b.access && a.map == b.map && a.store == b.store && a.max == b.max && a.low == b.low && a.high == b.high && a.dflt == b.dflt
def lims (e : En) : Prop := True
theorem val_range (e : En) (b : List UInt8) : 0 ≤ valS e b ∧ valS e b ≤ 101253170 := by
  unfold valS numS
  repeat' split
  all_goals omega
/-- What an entry that is right fulfils. -/
theorem right_iff {e : En} (h : rightS e = 0) : 1 ≤ e.index ∧ e.index ≤ 65535 ∧ 0 ≤ e.sub ∧ e.sub ≤ 255 ∧ nameB e.name = true ∧ (Ty.kd e.type).name ≠ [] ∧ flagsB e = true ∧ limB e = true ∧ valS e e.dflt = 0 := by
  unfold rightS at h
  split at h
  · omega
  · split at h
    · omega
    · split at h
      · omega
      · split at h
        · omega
        · split at h
          · omega
          · split at h
            · omega
            · rename_i h1 h2 h3 h4 h5 h6
              exact ⟨by omega, by omega, by omega, by omega, by simpa using h2, h3, by simpa using h4, by simpa using h5, by simpa using h6⟩
theorem check_bits {t most : Int} {b : List UInt8} (hb : ¬ 0 < (Ty.kd t).bits) : (Ty.checkS t most b = 15 ∧ (Ty.kd t).name = []) ∨ ((Ty.kd t).name ≠ [] ∧ (Ty.checkS t most b = 0 ∨ Ty.checkS t most b = 3 ∨ Ty.checkS t most b = 4)) := by
  unfold Ty.checkS
  by_cases hn : (Ty.kd t).name = []
  · exact .inl ⟨if_pos hn, hn⟩
  · rw [if_neg hn, if_neg hb]
    right
    refine ⟨hn, ?_⟩
    repeat' split
    all_goals simp
/-- The value's rule, as the document has it. -/
theorem val_known {e : En} {b : List UInt8} (hn : (Ty.kd e.type).name = []) : valS e b = 100925511 := by
  have hb : ¬ 0 < (Ty.kd e.type).bits := by
    rcases Ty.kd_cases e.type with h | ⟨_, h⟩
    · exfalso
      rcases h with h | h | h | h | h | h | h | h | h | h | h <;> rw [h] at hn <;> exact absurd hn (by decide)
    · rw [h]; decide
  have hc : Ty.checkS e.type e.max b = 15 := by unfold Ty.checkS; rw [if_pos hn]
  unfold valS
  rw [if_neg hb, hc]
  rfl
end Go.Proofs.YtmolmpgampmolaaGreat.Ent
/-
  Layer 15 as plain functions: a dictionary.
  Conditions: none.
-/
namespace Go.Proofs.YtmolmpgampmolaaGreat.Dc
set_option linter.unusedVariables false
set_option linter.unusedSimpArgs false
open Ent
structure Dic where
  l : List En
  v : List (List UInt8)
def en0 : En := ⟨0, 0, [], 0, 0, false, false, 0, 0, 0, []⟩
/-- Is an entry ahead of a place? -/
def ahead (x y : Int) (e : En) : Bool := if e.index = x then decide (e.sub < y) else decide (e.index < x)
theorem ahead_bef (x y : Int) (e p : En) (h1 : p.index = x) (h2 : p.sub = y) : befB e p = ahead x y e := by subst h1 h2; rfl
def seekS (l : List En) (x y : Int) : Nat := (l.takeWhile (ahead x y)).length
def hit (x y : Int) (e : En) : Bool := decide (e.index = x ∧ e.sub = y)
def atB (l : List En) (k : Nat) (x y : Int) : Bool := decide (k < l.length) && hit x y (l.getD k en0)
def inB (l : List En) (x : Int) : Bool := l.any fun e => e.index == x
def findS (l : List En) (x y : Int) : Option Nat := if atB l (seekS l x y) x y = true then some (seekS l x y) else none
/-- Why there is no entry. -/
def missS (l : List En) (x y : Int) : Int := match findS l x y with | some _ => 0 | none => if inB l x = true then 101253137 else 100794368
/-- In order. -/
def Ord (l : List En) : Prop := ∀ i, i + 1 < l.length → befB (l.getD i en0) (l.getD (i + 1) en0) = true
def Lt (x y x' y' : Int) : Prop := x < x' ∨ (x = x' ∧ y < y')
theorem bef_iff {a b : En} : befB a b = true ↔ Lt a.index a.sub b.index b.sub := by
  unfold befB Lt
  split <;> simp <;> omega
theorem ahead_iff {x y : Int} {e : En} : ahead x y e = true ↔ Lt e.index e.sub x y := by
  unfold ahead Lt
  split <;> simp <;> omega
theorem Lt.trans {a b c d e f : Int} (h : Lt a b c d) (h' : Lt c d e f) : Lt a b e f := by unfold Lt at *; omega
theorem ord_lt {l : List En} (h : Ord l) : ∀ (k i : Nat), i + (k + 1) < l.length → Lt (l.getD i en0).index (l.getD i en0).sub (l.getD (i + (k + 1)) en0).index (l.getD (i + (k + 1)) en0).sub
  | 0, i, hi => bef_iff.1 (h i hi)
  | k + 1, i, hi => (ord_lt h k i (by omega)).trans (bef_iff.1 (h (i + (k + 1)) (by omega)))
theorem ord_lt2 {l : List En} (h : Ord l) {i j : Nat} (hij : i < j) (hj : j < l.length) : Lt (l.getD i en0).index (l.getD i en0).sub (l.getD j en0).index (l.getD j en0).sub := by
  have := ord_lt h (j - i - 1) i (by omega)
  rwa [show i + (j - i - 1 + 1) = j by omega] at this
theorem seek_le (l : List En) (x y : Int) : seekS l x y ≤ l.length := (List.takeWhile_prefix _).length_le
theorem seek_lt {l : List En} {x y : Int} {j : Nat} (h : j < seekS l x y) : ahead x y (l.getD j en0) = true := by
  unfold seekS at h
  have hp := List.takeWhile_prefix (ahead x y) (l := l)
  have hl := hp.length_le
  have e : (l.takeWhile (ahead x y))[j] = l[j]'(by omega) := by
    obtain ⟨t, ht⟩ := hp
    have : l[j]'(by omega) = (l.takeWhile (ahead x y) ++ t)[j]'(by rw [List.length_append]; omega) := by congr 1; exact ht.symm
    rw [this, List.getElem_append_left h]
  have hm := List.getElem_mem h
  have := List.all_eq_true.1 (List.all_takeWhile (p := ahead x y) (l := l)) _ hm
  rw [e] at this
  rw [List.getD_eq_getElem?_getD, List.getElem?_eq_getElem (by omega)]
  exact this
theorem seek_at {l : List En} {x y : Int} (h : seekS l x y < l.length) : ahead x y (l.getD (seekS l x y) en0) = false := by
  induction l with
  | nil => simp at h
  | cons e l ih =>
    unfold seekS at *
    rw [List.takeWhile_cons] at *
    split at h
    · rename_i hp
      rw [if_pos hp]
      simp only [List.length_cons, List.getD_cons_succ] at *
      exact ih (by omega)
    · rename_i hp
      rw [if_neg hp]
      simpa using hp
theorem seek_ge {l : List En} (ho : Ord l) {x y : Int} {j : Nat} (h : seekS l x y ≤ j) (hj : j < l.length) : ahead x y (l.getD j en0) = false := by
  rcases Nat.eq_or_lt_of_le h with h1 | h1
  · subst h1; exact seek_at hj
  · cases ha : ahead x y (l.getD j en0) with
    | false => rfl
    | true =>
      have h2 := ord_lt2 ho h1 hj
      have h3 := h2.trans (ahead_iff.1 ha)
      have h4 := seek_at (l := l) (x := x) (y := y) (by omega)
      rw [ahead_iff.2 h3] at h4
      cases h4
/-- What a search by halves finds. -/
theorem seek_of {l : List En} (ho : Ord l) {x y : Int} {k : Nat} (hk : k ≤ l.length) (h1 : ∀ j, j < k → ahead x y (l.getD j en0) = true) (h2 : ∀ j, k ≤ j → j < l.length → ahead x y (l.getD j en0) = false) : k = seekS l x y := by
  rcases Nat.lt_trichotomy k (seekS l x y) with h | h | h
  · have := seek_lt h
    rw [h2 k (Nat.le_refl _) (by have := seek_le l x y; omega)] at this
    cases this
  · exact h
  · have := seek_at (l := l) (x := x) (y := y) (by omega)
    rw [h1 _ h] at this
    cases this
theorem hit_iff {x y : Int} {e : En} : hit x y e = true ↔ e.index = x ∧ e.sub = y := by unfold hit; simp
theorem find_some {l : List En} {x y : Int} {k : Nat} (h : findS l x y = some k) : k = seekS l x y ∧ k < l.length ∧ (l.getD k en0).index = x ∧ (l.getD k en0).sub = y := by
  unfold findS at h
  split at h
  · rename_i ha
    injection h with h
    subst h
    unfold atB at ha
    simp only [Bool.and_eq_true, decide_eq_true_eq] at ha
    exact ⟨rfl, ha.1, hit_iff.1 ha.2⟩
  · cases h
theorem find_none {l : List En} (ho : Ord l) {x y : Int} (h : findS l x y = none) {j : Nat} (hj : j < l.length) : ¬ ((l.getD j en0).index = x ∧ (l.getD j en0).sub = y) := by
  rintro ⟨h1, h2⟩
  have e : j = seekS l x y := by
    rcases Nat.lt_trichotomy j (seekS l x y) with h3 | h3 | h3
    · have := ahead_iff.1 (seek_lt h3)
      unfold Lt at this
      omega
    · exact h3
    · have h4 := ord_lt2 ho h3 hj
      rw [h1, h2] at h4
      have h5 := seek_at (l := l) (x := x) (y := y) (by omega)
      rw [ahead_iff.2 h4] at h5
      cases h5
  unfold findS at h
  rw [if_pos (by unfold atB; rw [← e, decide_eq_true hj, hit_iff.2 ⟨h1, h2⟩]; rfl)] at h
  cases h
/-- An index is there at the place, or ahead of it. -/
theorem in_near {l : List En} (ho : Ord l) (x y : Int) : inB l x = (decide (seekS l x y < l.length) && ((l.getD (seekS l x y) en0).index == x) || (decide (1 ≤ seekS l x y) && ((l.getD (seekS l x y - 1) en0).index == x))) := by
  have hle := seek_le l x y
  rw [Bool.eq_iff_iff]
  unfold inB
  simp only [List.any_eq_true, Bool.or_eq_true, Bool.and_eq_true, decide_eq_true_eq, beq_iff_eq]
  constructor
  · rintro ⟨e, he, hx⟩
    obtain ⟨j, hj, rfl⟩ := List.getElem_of_mem he
    have hg : l.getD j en0 = l[j] := by rw [List.getD_eq_getElem?_getD, List.getElem?_eq_getElem hj]; rfl
    rw [← hg] at hx
    rcases Nat.lt_or_ge j (seekS l x y) with h | h
    · right
      refine ⟨by omega, ?_⟩
      have h1 := ahead_iff.1 (seek_lt (l := l) (x := x) (y := y) (j := seekS l x y - 1) (by omega))
      rcases Nat.eq_or_lt_of_le (show j ≤ seekS l x y - 1 by omega) with h2 | h2
      · rw [← h2]; exact hx
      · have h3 := ord_lt2 ho h2 (by omega)
        unfold Lt at h1 h3
        omega
    · left
      refine ⟨by omega, ?_⟩
      have h1 := seek_at (l := l) (x := x) (y := y) (by omega)
      have h2 : ¬ Lt (l.getD (seekS l x y) en0).index (l.getD (seekS l x y) en0).sub x y := by
        intro h; rw [ahead_iff.2 h] at h1; cases h1
      rcases Nat.eq_or_lt_of_le h with h3 | h3
      · rw [h3]; exact hx
      · have h4 := ord_lt2 ho h3 hj
        unfold Lt at h2 h4
        omega
  · rintro (⟨h, hx⟩ | ⟨h, hx⟩)
    · exact ⟨_, by rw [List.getD_eq_getElem?_getD, List.getElem?_eq_getElem h]; exact List.getElem_mem h, hx⟩
    · have h' : seekS l x y - 1 < l.length := by omega
      exact ⟨_, by rw [List.getD_eq_getElem?_getD, List.getElem?_eq_getElem h']; exact List.getElem_mem h', hx⟩
/-- What the document's search finds: -1, -2 where there is none. -/
def rfind (l : List En) (x y : Int) : Int := match findS l x y with | some k => (k : Int) | none => if inB l x = true then -1 else -2
/-- A dictionary of entries: its code, and the fault's place. -/
def newF (l : List En) : Nat → Nat → Int × Nat
  | 0, _ => (0, 0)
  | k + 1, i => if rightS (l.getD i en0) ≠ 0 then (rightS (l.getD i en0), i) else if 0 < i ∧ befB (l.getD (i - 1) en0) (l.getD i en0) = false then (16, i) else newF l k (i + 1)
def newS (l : List En) : Int × Nat := if 96 < l.length then (3, 96) else newF l l.length 0
theorem newF_ok {l : List En} : ∀ (k i : Nat), k + i = l.length → newF l k i = (0, 0) → ∀ j, i ≤ j → j < l.length → rightS (l.getD j en0) = 0 ∧ (0 < j → befB (l.getD (j - 1) en0) (l.getD j en0) = true)
  | 0, i, hk, _, j, h1, h2 => by omega
  | k + 1, i, hk, h, j, h1, h2 => by
    rw [newF] at h
    split at h
    · rename_i hr; injection h with h _; exact absurd h hr
    · rename_i hr
      split at h
      · simp at h
      · rename_i hb
        rcases Nat.eq_or_lt_of_le h1 with h3 | h3
        · subst h3
          refine ⟨by simpa using hr, fun h0 => ?_⟩
          cases hbb : befB (l.getD (i - 1) en0) (l.getD i en0) with
          | true => rfl
          | false => exact absurd ⟨h0, hbb⟩ hb
        · exact newF_ok k (i + 1) (by omega) h j (by omega) h2
theorem newF_place {l : List En} : ∀ (k i : Nat), (newF l k i).1 = 0 → (newF l k i).2 = 0
  | 0, _, _ => rfl
  | k + 1, i, h => by
    rw [newF] at h ⊢
    split at h
    · rename_i hr; exact absurd h hr
    · rename_i hr
      rw [if_neg hr]
      split at h
      · simp at h
      · rename_i hb
        rw [if_neg hb]
        exact newF_place k (i + 1) h
/-- A dictionary that was made is in order, and its entries are right. -/
theorem new_ok {l : List En} (h : (newS l).1 = 0) : l.length ≤ 96 ∧ Ord l ∧ ∀ e ∈ l, rightS e = 0 := by
  unfold newS at h
  split at h
  · simp at h
  · rename_i h96
    have hz : newF l l.length 0 = (0, 0) := by
      have := newF_place l.length 0 h
      generalize newF l l.length 0 = x at *
      obtain ⟨a, b⟩ := x
      dsimp only at *
      subst h this
      rfl
    have ha := newF_ok l.length 0 (by omega) hz
    refine ⟨by omega, fun i hi => ?_, fun e he => ?_⟩
    · have := (ha (i + 1) (by omega) hi).2 (by omega)
      rwa [Nat.add_sub_cancel] at this
    · obtain ⟨j, hj, rfl⟩ := List.getElem_of_mem he
      have := (ha j (by omega) hj).1
      rwa [List.getD_eq_getElem?_getD, List.getElem?_eq_getElem hj] at this
/-- Why a value may not be set. -/
def mayS (l : List En) (any : Bool) (x y : Int) (b : List UInt8) : Int := match findS l x y with
  | none => if inB l x = true then 101253137 else 100794368
  | some k => if any = false ∧ writS (l.getD k en0) ≠ 0 then writS (l.getD k en0) else valS (l.getD k en0) b
def pokeS (d : Dic) (x y : Int) (b : List UInt8) : Dic := match findS d.l x y with
  | none => d
  | some k => if valS (d.l.getD k en0) b = 0 then ⟨d.l, d.v.set k b⟩ else d
def peekS (d : Dic) (x y : Int) : Option (List UInt8) := (findS d.l x y).map fun k => d.v.getD k []
structure Vl where
  index : Int
  sub : Int
  data : List UInt8
def valuesS (d : Dic) : List Vl := (List.range d.l.length).map fun k => ⟨(d.l.getD k en0).index, (d.l.getD k en0).sub, d.v.getD k []⟩
def sameV : List Vl → List Vl → Bool
  | [], [] => true
  | a :: l, b :: m => a.index == b.index && a.sub == b.sub && a.data == b.data && sameV l m
  | _, _ => false
theorem sameV_self : ∀ l : List Vl, sameV l l = true
  | [] => rfl
  | a :: l => by simp [sameV, sameV_self l]
end Go.Proofs.YtmolmpgampmolaaGreat.Dc
/-
  Words on memory: a slice that reads as bytes, a row of bytes of the call's own, and what keeps them.
  Conditions: none.
-/
namespace Go.Proofs.YtmolmpgampmolaaGreat
set_option linter.unusedVariables false
set_option linter.unusedSimpArgs false
open Go.RowKit

/-- A byte as a cell. -/
def bv (c : UInt8) : Value := .int .u8 (c.toNat : Int)

/-- The slice '.slice A n c' reads as the bytes l; its cells lie below block B. -/
structure RB (w : World) (B : Nat) (A : Option Addr) (n c : Nat) (l : List UInt8) : Prop where
  len : l.length = n
  le : n ≤ c
  cap : c ≤ 9223372036854775807
  nil : A = none → n = 0 ∧ c = 0
  at_ : 0 < n → ∃ b o, A = some ⟨b, o, none⟩ ∧ b < B ∧ ∀ i, i < n → w.cell? ⟨b, o + i, none⟩ = some (.int .u8 ((l.getD i 0).toNat : Int))

/-- What is of the call's own: a row of bytes from block 'base' on. -/
def OB (w : World) (base : Nat) (A : Option Addr) (n c : Nat) (l : List UInt8) : Prop := w.ownsRow base 5 1 (.slice A n c) n (l.map bv)

theorem byte_lt (c : UInt8) : c.toNat < 256 := c.toNat_lt
theorem getD_byte (l : List UInt8) (i : Nat) : ((l.getD i 0).toNat : Int) < 256 := by have := (l.getD i 0).toNat_lt; omega

theorem byte_beq (x y : UInt8) : ((x.toNat : Int) == (y.toNat : Int)) = (x == y) := by
  rw [Bool.eq_iff_iff, beq_iff_eq, beq_iff_eq]
  exact ⟨fun h => UInt8.toNat_inj.1 (by omega), fun h => by rw [h]⟩
theorem u8_xor_bytes (x y : UInt8) : bits .xor .u8 (x.toNat : Int) (y.toNat : Int) = ((x ^^^ y).toNat : Int) := by
  rw [u8_xor_nat _ _ x.toNat_lt y.toNat_lt, UInt8.toNat_xor]
theorem u8_or_bytes (x y : UInt8) : bits .or .u8 (x.toNat : Int) (y.toNat : Int) = ((x ||| y).toNat : Int) := by
  rw [u8_or_nat _ _ x.toNat_lt y.toNat_lt, UInt8.toNat_or]
theorem u8_and_bytes (x y : UInt8) : bits .and .u8 (x.toNat : Int) (y.toNat : Int) = ((x &&& y).toNat : Int) := by
  rw [u8_and_nat _ _ x.toNat_lt y.toNat_lt, UInt8.toNat_and]

section
variable {w w' : World} {B B' n c : Nat} {A : Option Addr} {l : List UInt8}
theorem RB.none_ : RB w B none 0 0 [] := ⟨rfl, Nat.le_refl _, by omega, fun _ => ⟨rfl, rfl⟩, fun h => absurd h (by omega)⟩
theorem RB.keep (h : RB w B A n c l) (hk : ∀ p : Addr, p.block < B → w'.cell? p = w.cell? p) : RB w' B A n c l :=
  ⟨h.len, h.le, h.cap, h.nil, fun hn => by
    obtain ⟨b, o, e, hb, hc⟩ := h.at_ hn
    exact ⟨b, o, e, hb, fun i hi => (hk _ hb).trans (hc i hi)⟩⟩
theorem RB.more (h : RB w B A n c l) (hB : B ≤ B') : RB w B' A n c l :=
  ⟨h.len, h.le, h.cap, h.nil, fun hn => by
    obtain ⟨b, o, e, hb, hc⟩ := h.at_ hn
    exact ⟨b, o, e, by omega, hc⟩⟩
theorem RB.below (h : RB w B A n c l) (hb : Below B w w') : RB w' B A n c l := h.keep fun _ hp => hb.cell hp
theorem RB.alloc (h : RB w B A n c l) (hB : B ≤ w.heap.size) (o : Obj) : RB (w.alloc o) B A n c l := h.keep fun p hp => World.cell?_alloc_lt w o p (by omega)
theorem RB.drew (h : RB w B A n c l) : RB w.drew B A n c l := ⟨h.len, h.le, h.cap, h.nil, h.at_⟩
theorem RB.drewN (h : RB w B A n c l) (k : Nat) : RB (w.drewN k) B A n c l := ⟨h.len, h.le, h.cap, h.nil, h.at_⟩
theorem RB.lt (h : RB w B A n c l) : n ≤ 9223372036854775807 := Nat.le_trans h.le h.cap
/-- 'x[:k]' -/
theorem RB.take (h : RB w B A n c l) {k : Nat} (hk : k ≤ n) : RB w B A k c (l.take k) :=
  ⟨by rw [List.length_take, h.len]; omega, Nat.le_trans hk h.le, h.cap, fun e => ⟨by have := (h.nil e).1; omega, (h.nil e).2⟩, fun hn => by
    obtain ⟨b, o, e, hb, hc⟩ := h.at_ (by omega)
    refine ⟨b, o, e, hb, fun i hi => ?_⟩
    rw [hc i (by omega)]
    simp [List.getD, List.getElem?_take, hi]⟩
/-- 'x[k:]', as the model has it: at the capacity's end the address stays. -/
theorem RB.drop (h : RB w B A n c l) {k : Nat} (hk : k ≤ n) : RB w B (if c = k then A else A.map (·.add k)) (n - k) (c - k) (l.drop k) :=
  ⟨by rw [List.length_drop, h.len], by have := h.le; omega, by have := h.cap; omega, fun e => by
    have hA : A = none := by
      split at e
      · exact e
      · simpa using e
    have := h.nil hA; omega, fun hn => by
    obtain ⟨b, o, rfl, hb, hc⟩ := h.at_ (by omega)
    rw [if_neg (by have := h.le; omega)]
    refine ⟨b, o + k, by simp [Addr.add_lit], hb, fun i hi => ?_⟩
    rw [Nat.add_assoc, hc (k + i) (by omega)]
    simp [List.getD, List.getElem?_drop]⟩
theorem OB.rb {base : Nat} (h : OB w base A n c l) : RB w w.heap.size A n c l := by
  obtain ⟨hl, hr⟩ := h
  have hlen : l.length = n := by simpa using hl
  rcases hr with ⟨hv, hn⟩ | ⟨g, cap, cur, hv, hb, hg, hnc, hcm, hcs, ht⟩
  · injection hv with h1 h2 h3
    subst h1 h2 h3
    exact ⟨hlen, Nat.le_refl _, by omega, fun _ => ⟨rfl, rfl⟩, fun h => absurd h (by omega)⟩
  · injection hv with h1 h2 h3
    subst h1 h3
    have hcap : c ≤ 9223372036854775807 := by simpa [maxLen] using hcm
    refine ⟨hlen, hnc, hcap, (fun e => by cases e), fun hn => ⟨g, 0, rfl, (Array.getElem?_eq_some_iff.1 hg).1, fun i hi => ?_⟩⟩
    rw [Nat.zero_add, cell_of_row w g i cur _ (0, 0) hg]
    have : (l.map bv)[i]? = cur.toList[i]? := by rw [← ht, List.getElem?_take, if_pos (by omega)]
    rw [← Array.getElem?_toList, ← this]
    simp [List.getD, List.getElem?_eq_getElem (show i < l.length by omega), bv]
theorem OB.more {base base' : Nat} (h : OB w base A n c l) (hb : base' ≤ base) : OB w base' A n c l := by
  refine ⟨h.1, ?_⟩
  rcases h.2 with h2 | ⟨g, cap, cur, hv, hg, r⟩
  · exact .inl h2
  · exact .inr ⟨g, cap, cur, hv, by omega, r⟩
/-- What is owned is kept where nothing below the heap's size turns. -/
theorem OB.below {base : Nat} (h : OB w base A n c l) (hb : Below w.heap.size w w') : OB w' base A n c l := by
  refine ⟨h.1, ?_⟩
  rcases h.2 with h2 | ⟨g, cap, cur, hv, hg, hh, r⟩
  · exact .inl h2
  · exact .inr ⟨g, cap, cur, hv, hg, (hb.block g (Array.getElem?_eq_some_iff.1 hh).1).trans hh, r⟩
theorem OB.below_of {base B : Nat} (h : OB w base A n c l) (hb : Below B w w') (hB : ∀ k, (Value.slice A n c).ownBlock = some k → k < B) : OB w' base A n c l := by
  refine ⟨h.1, ?_⟩
  rcases h.2 with h2 | ⟨g, cap, cur, hv, hg, hh, r⟩
  · exact .inl h2
  · exact .inr ⟨g, cap, cur, hv, hg, (hb.block g (hB g (by rw [hv]; rfl))).trans hh, r⟩
/-- 'string(x)' -/
theorem RB.conv {P : Program} (h : RB w B A n c l) (src e : TypeId) (hs : P.underlying src = some (.slice e)) (he : P.underlying e = some (.int .u8)) :
    ∀ dst, P.underlying dst = some .string → (convert src dst (.slice A n c)).run P w = .ok (.string ⟨l.toArray⟩) w := by
  intro dst hd
  by_cases hn : 0 < n
  · obtain ⟨b, o, rfl, hb, hc⟩ := h.at_ hn
    have := run_convert_bytes_arg (P := P) w src e hs he b o n c (l.map fun x => (x.toNat : Int)) (by simpa using h.len) (fun i hi => by
      rw [hc i hi]
      simp [List.getD, List.getElem?_eq_getElem (show i < l.length by rw [h.len]; exact hi)]) dst hd
    rw [this]
    congr 2
    simp [strOfNums, List.map_map, Function.comp_def]
  · obtain rfl : n = 0 := by omega
    have hl : l = [] := List.eq_nil_of_length_eq_zero h.len
    subst hl
    cases A with
    | none => exact run_convert_bytes_nil w src e hs he _ _ dst hd
    | some ad =>
      have := run_bytesToString (P := P) w ad 0 c [] (by simp [loadCells, loadCellsFrom])
      rw [run_convert_bytes_string w src dst e _ 0 c hs he hd, this]
      rfl
end

theorem bcell {W w1 : World} (hb : Below W.heap.size W w1) : (∀ b o, b < W.heap.size → w1.cell? ⟨b, o, none⟩ = W.cell? ⟨b, o, none⟩) ∧ (∀ b o, b < W.heap.size → w1.frozen? ⟨b, o, none⟩ = W.frozen? ⟨b, o, none⟩) :=
  ⟨fun b o h => hb.cell (p := ⟨b, o, none⟩) h, fun b o h => hb.frozen (p := ⟨b, o, none⟩) h⟩

theorem ret_int {k : IntKind} {a b : Int} (h : a = b) : Ending.returned (.int k a) = .returned (.int k b) := by rw [h]
theorem ret_bool {a b : Bool} (h : a = b) : Ending.returned (.bool a) = .returned (.bool b) := by rw [h]
theorem alloc_one (w : World) (o : Obj) : Below w.heap.size w (w.alloc o) := (Below.refl _ _).alloc (Nat.le_refl _) o
theorem alloc_two (w : World) (o o' : Obj) : Below w.heap.size w ((w.alloc o).alloc o') := (alloc_one w o).alloc (by simp) o'
theorem below_drewN {B : Nat} {a w : World} (h : Below B a w) (n : Nat) : Below B a (w.drewN n) := ⟨h.os, h.tape, h.output, h.size, h.block⟩
/-- Two steps, each of which leaves alone what was there when it began. -/
theorem below_step {B : Nat} {a b c : World} (h : Below B a b) (k : Below b.heap.size b c) (hB : B ≤ a.heap.size) : Below B a c :=
  h.trans (k.mono (Nat.le_trans hB h.size))

end Go.Proofs.YtmolmpgampmolaaGreat
