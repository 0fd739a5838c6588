/-
  Layer 10 as plain functions: frames, their texts, their order.
  Conditions: none.
-/
import Derived.Test.YtmhcobhpdlpoeaaOctPure
namespace Go.Proofs.Ytmhcobhpdlpoeaa.Can
set_option linter.unusedVariables false
set_option linter.unusedSimpArgs false
open Oct
structure Fr where
  id : Int
  rem : Bool
  data : List UInt8
def zero : Fr := ⟨0, false, []⟩
def checkN (id : Int) (r : Bool) (n : Nat) : Int := if id < 0 ∨ 2047 < id then 9 else if 8 < n then 3 else if r = true ∧ 0 < n then 4 else 0
def check (f : Fr) : Int := checkN f.id f.rem f.data.length
def beforeN (i : Int) (r : Bool) (i' : Int) (r' : Bool) : Bool := decide (i < i') || (decide (i = i') && !r && r')
def before (a b : Fr) : Bool := beforeN a.id a.rem b.id b.rem
def sameB (a b : Fr) : Bool := decide (a.id = b.id) && (a.rem == b.rem) && (a.data == b.data)
theorem checkN_lt {i : Int} {r : Bool} {n : Nat} (h : checkN i r n = 0) : 0 ≤ i ∧ i ≤ 2047 ∧ n ≤ 8 ∧ (r = true → n = 0) := by
  unfold checkN at h
  split at h
  · cases h
  · split at h
    · cases h
    · split at h
      · cases h
      · rename_i h1 h2 h3
        refine ⟨by omega, by omega, by omega, fun hr => ?_⟩
        rcases Nat.eq_zero_or_pos n with h0 | h0
        · exact h0
        · exact absurd ⟨hr, h0⟩ h3
theorem checkN_zero {i : Int} {r : Bool} {n : Nat} (h1 : 0 ≤ i) (h2 : i ≤ 2047) (h3 : n ≤ 8) (h4 : r = true → n = 0) : checkN i r n = 0 := by
  unfold checkN
  rw [if_neg (by omega), if_neg (by omega), if_neg (fun h => by have := h4 h.1; omega)]
theorem checkN_range (i : Int) (r : Bool) (n : Nat) : checkN i r n = 0 ∨ checkN i r n = 3 ∨ checkN i r n = 4 ∨ checkN i r n = 9 := by
  unfold checkN
  split
  · simp
  · split
    · simp
    · split <;> simp
theorem sameB_iff (a b : Fr) : sameB a b = true ↔ a = b := by
  obtain ⟨i, r, l⟩ := a
  obtain ⟨i', r', l'⟩ := b
  unfold sameB
  simp [and_assoc]
theorem sameB_refl (a : Fr) : sameB a a = true := (sameB_iff a a).2 rfl

/-- An Id's three digits. -/
def idS (i : Int) : List UInt8 := [dig ((i / 256).toNat % 16), dig ((i % 256).toNat / 16), dig ((i % 256).toNat % 16)]
def showS (f : Fr) : List UInt8 × Int := if check f = 0 then (idS f.id ++ [35] ++ (if f.rem = true then [82] else hexS f.data), 0) else ([], check f)
/-- The Id with which a text begins. -/
def id3 (s : List UInt8) : Option Nat :=
  match nib (s.getD 0 0), nib (s.getD 1 0), nib (s.getD 2 0) with
  | some x, some y, some z => some (256 * x + 16 * y + z)
  | _, _, _ => none
def nv (c : UInt8) : Nat := (nib c).getD 0
def idv (s : List UInt8) : Nat → Nat
  | 0 => 0
  | k + 1 => 16 * idv s k + nv (s.getD k 0)
theorem nv_lt (c : UInt8) : nv c < 16 := by
  unfold nv
  cases h : nib c with
  | none => decide
  | some k => exact nib_lt h
theorem idv_lt (s : List UInt8) : ∀ k, idv s k < 16 ^ k
  | 0 => by simp [idv]
  | k + 1 => by
    have h1 := idv_lt s k
    have h2 := nv_lt (s.getD k 0)
    rw [idv, Nat.pow_succ]
    omega
def idOk (s : List UInt8) : Prop := 4 ≤ s.length ∧ s.getD 3 0 = 35 ∧ ∀ j, j < 3 → nib (s.getD j 0) ≠ none
theorem id3_ok {s : List UInt8} (h : ∀ j, j < 3 → nib (s.getD j 0) ≠ none) : id3 s = some (idv s 3) := by
  have h0 := h 0 (by omega); have h1 := h 1 (by omega); have h2 := h 2 (by omega)
  unfold id3
  cases e0 : nib (s.getD 0 0) with
  | none => exact absurd e0 h0
  | some x => cases e1 : nib (s.getD 1 0) with
    | none => exact absurd e1 h1
    | some y => cases e2 : nib (s.getD 2 0) with
      | none => exact absurd e2 h2
      | some z =>
        simp only [idv, nv, e0, e1, e2, Option.getD_some]
        congr 1
        omega
theorem id3_bad {s : List UInt8} {j : Nat} (hj : j < 3) (h : nib (s.getD j 0) = none) : id3 s = none := by
  unfold id3
  rcases (show j = 0 ∨ j = 1 ∨ j = 2 by omega) with rfl | rfl | rfl <;> rw [h]
  · cases nib (s.getD 0 0) <;> rfl
  · cases nib (s.getD 0 0) <;> cases nib (s.getD 1 0) <;> rfl
def chk (f : Fr) : Fr × Int := if check f = 0 then (f, 0) else (zero, check f)
def parseS (s : List UInt8) : Fr × Int :=
  if 4 ≤ s.length ∧ s.getD 3 0 = 35 then
    match id3 s with
    | none => (zero, 4)
    | some n => if s.drop 4 = [82] then chk ⟨n, true, []⟩ else
      match pairs (s.drop 4) with
      | none => (zero, 4)
      | some d => chk ⟨n, false, d⟩
  else (zero, 4)
theorem parseS_bad {s : List UInt8} (h : ¬ idOk s) : parseS s = (zero, 4) := by
  unfold parseS
  split
  · rename_i h1
    have : ∃ j, j < 3 ∧ nib (s.getD j 0) = none := by
      apply Classical.byContradiction
      intro hc
      exact h ⟨h1.1, h1.2, fun j hj e => hc ⟨j, hj, e⟩⟩
    obtain ⟨j, hj, e⟩ := this
    rw [id3_bad hj e]
  · rfl
theorem parseS_ok {s : List UInt8} (h : idOk s) : parseS s = if s.drop 4 = [82] then chk ⟨(idv s 3 : Nat), true, []⟩ else
      match pairs (s.drop 4) with
      | none => (zero, 4)
      | some d => chk ⟨(idv s 3 : Nat), false, d⟩ := by
  unfold parseS
  rw [if_pos ⟨h.1, h.2.1⟩, id3_ok h.2.2]
theorem take3 {s : List UInt8} (h : 4 ≤ s.length) : s.take 3 = [s.getD 0 0, s.getD 1 0, s.getD 2 0] := by
  match s, h with
  | a :: b :: c :: d :: r, _ => rfl
theorem pairs_id {s : List UInt8} (h : 4 ≤ s.length) (hn : ∀ j, j < 3 → nib (s.getD j 0) ≠ none) :
    ∃ x y : UInt8, pairs (48 :: s.take 3) = some [x, y] ∧ 256 * x.toNat + y.toNat = idv s 3 := by
  rw [take3 h]
  have h0 := hn 0 (by omega); have h1 := hn 1 (by omega); have h2 := hn 2 (by omega)
  cases e0 : nib (s.getD 0 0) with
  | none => exact absurd e0 h0
  | some x => cases e1 : nib (s.getD 1 0) with
    | none => exact absurd e1 h1
    | some y => cases e2 : nib (s.getD 2 0) with
      | none => exact absurd e2 h2
      | some z =>
        have a := nib_lt e0; have b := nib_lt e1; have c := nib_lt e2
        have e48 : nib 48 = some 0 := by decide
        refine ⟨UInt8.ofNat (16 * 0 + x), UInt8.ofNat (16 * y + z), ?_, ?_⟩
        · simp only [pairs, e48, e0, e1, e2]
        · simp only [idv, nv, e0, e1, e2, Option.getD_some, UInt8.toNat_ofNat']
          omega
theorem pairs_id_bad {s : List UInt8} (h : 4 ≤ s.length) {j : Nat} (hj : j < 3) (hb : nib (s.getD j 0) = none) : pairs (48 :: s.take 3) = none := by
  rw [take3 h]
  have e48 : nib 48 = some 0 := by decide
  rcases (show j = 0 ∨ j = 1 ∨ j = 2 by omega) with rfl | rfl | rfl
  · simp only [pairs, e48, hb]
  · simp only [pairs, hb]
    cases nib (s.getD 0 0) <;> rfl
  · simp only [pairs, hb]
    cases nib (s.getD 0 0) <;> cases nib (s.getD 1 0) <;> rfl
/-- The first line, and the rest behind it. -/
def lineS : List UInt8 → Option (List UInt8 × List UInt8)
  | [] => none
  | c :: s => if c = 10 then some ([], s) else match lineS s with
    | none => none
    | some (a, b) => some (c :: a, b)
theorem lineS_len : ∀ {s a b : List UInt8}, lineS s = some (a, b) → s = a ++ 10 :: b
  | [], _, _, h => by simp [lineS] at h
  | c :: s, a, b, h => by
    unfold lineS at h
    split at h
    · rename_i hc
      injection h with h
      injection h with h1 h2
      subst h1 h2 hc
      rfl
    · split at h
      · cases h
      · rename_i a' b' he
        injection h with h
        injection h with h1 h2
        subst h1 h2
        rw [lineS_len he]
        rfl
/-- The frames of a text: the frames so far in l. -/
def linesF : Nat → List UInt8 → List Fr → List Fr × Int × Nat
  | 0, _, l => (l, 0, 0)
  | k + 1, s, l => if s = [] then (l, 0, 0) else match lineS s with
    | none => ([], 4, l.length)
    | some (a, b) => if (parseS a).2 = 0 then linesF k b (l ++ [(parseS a).1]) else ([], (parseS a).2, l.length)
def linesS (s : List UInt8) : List Fr × Int × Nat := linesF (s.length + 1) s []
def textF : List Fr → List UInt8 → List UInt8 × Int
  | [], t => (t, 0)
  | f :: l, t => if (showS f).2 = 0 then textF l (t ++ ((showS f).1 ++ [10])) else ([], (showS f).2)
def textS (l : List Fr) : List UInt8 × Int := textF l []
def allB : List Fr → List Fr → Bool
  | [], [] => true
  | a :: l, b :: m => sameB a b && allB l m
  | _, _ => false
end Go.Proofs.Ytmhcobhpdlpoeaa.Can
