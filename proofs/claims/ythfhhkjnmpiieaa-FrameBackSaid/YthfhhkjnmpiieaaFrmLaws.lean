/-
  Plain laws of layer 10: there and back.
  Conditions: none.
-/
import Derived.Test.YthfhhkjnmpiieaaFrmPure
namespace Go.Proofs.Ythfhhkjnmpiieaa.Can
set_option linter.unusedVariables false
set_option linter.unusedSimpArgs false
open Oct
theorem lineS_none : ∀ {s : List UInt8}, (∀ j, j < s.length → s.getD j 0 ≠ 10) → lineS s = none
  | [], _ => rfl
  | c :: s, h => by
    have h0 := h 0 (by simp)
    have hs : lineS s = none := lineS_none fun j hj => by have := h (j + 1) (by simp; omega); simpa using this
    unfold lineS
    rw [if_neg (by simpa using h0), hs]
theorem lineS_at : ∀ {s : List UInt8} {k : Nat}, k < s.length → s.getD k 0 = 10 → (∀ j, j < k → s.getD j 0 ≠ 10) → lineS s = some (s.take k, s.drop (k + 1))
  | [], k, h, _, _ => by simp at h
  | c :: s, 0, _, h, _ => by
    have hc : c = 10 := by simpa using h
    unfold lineS
    rw [if_pos hc]
    rfl
  | c :: s, k + 1, hk, h, hn => by
    have h0 := hn 0 (by omega)
    have hs := lineS_at (s := s) (k := k) (by simp at hk; omega) (by simpa using h) fun j hj => by have := hn (j + 1) (by omega); simpa using this
    unfold lineS
    rw [if_neg (by simpa using h0), hs]
    rfl
theorem lineS_app : ∀ (a b : List UInt8), (∀ c, c ∈ a → c ≠ 10) → lineS (a ++ 10 :: b) = some (a, b)
  | [], b, _ => by unfold lineS; rw [List.nil_append]; simp
  | c :: a, b, h => by
    have hs := lineS_app a b fun d hd => h d (List.mem_cons_of_mem _ hd)
    rw [List.cons_append]
    unfold lineS
    rw [if_neg (h c List.mem_cons_self), hs]
theorem dig_ne (i : Nat) (h : i < 16) : dig i ≠ 10 := by
  intro e
  have h1 := dig_toNat i h
  rw [e] at h1
  have : (10 : UInt8).toNat = 10 := rfl
  split at h1 <;> omega
theorem hexS_ne : ∀ (l : List UInt8), ∀ c, c ∈ hexS l → c ≠ 10
  | [], c, h => by simp [hexS] at h
  | x :: l, c, h => by
    have hx := x.toNat_lt
    have e : hexS (x :: l) = dig (x.toNat / 16) :: dig (x.toNat % 16) :: hexS l := by simp [hexS]
    rw [e] at h
    simp only [List.mem_cons] at h
    rcases h with h | h | h
    · rw [h]; exact dig_ne _ (by omega)
    · rw [h]; exact dig_ne _ (by omega)
    · exact hexS_ne l c h
theorem showS_err (f : Fr) : (showS f).2 = check f := by
  unfold showS
  split
  · rename_i h; exact h.symm
  · rfl
theorem showS_ok {f : Fr} (h : check f = 0) : showS f = (idS f.id ++ [35] ++ (if f.rem = true then [82] else hexS f.data), 0) := by
  unfold showS; rw [if_pos h]
theorem showS_bad' {f : Fr} (h : check f ≠ 0) : (showS f).1 = [] := by
  unfold showS; rw [if_neg h]
theorem showS_ne {f : Fr} : ∀ c, c ∈ (showS f).1 → c ≠ 10 := by
  intro c hc
  by_cases h : check f = 0
  · obtain ⟨h1, h2, h3, h4⟩ := checkN_lt h
    rw [showS_ok h] at hc
    simp only [List.mem_append, idS, List.mem_cons, List.not_mem_nil, or_false] at hc
    rcases hc with ((hc | hc | hc) | hc) | hc
    · rw [hc]; exact dig_ne _ (by omega)
    · rw [hc]; exact dig_ne _ (by omega)
    · rw [hc]; exact dig_ne _ (by omega)
    · rw [hc]; decide
    · split at hc
      · simp at hc; rw [hc]; decide
      · exact hexS_ne _ _ hc
  · rw [showS_bad' h] at hc
    simp at hc
theorem showS_length (f : Fr) : (showS f).1.length ≤ 20 := by
  by_cases h : check f = 0
  · obtain ⟨h1, h2, h3, h4⟩ := checkN_lt h
    rw [showS_ok h]
    simp only [List.length_append, idS, List.length_cons, List.length_nil]
    split
    · simp
    · rw [hexS_length]; omega
  · rw [showS_bad' h]; simp
theorem idS_nv {i : Int} (h0 : 0 ≤ i) (h1 : i ≤ 2047) (r : List UInt8) : idOk (idS i ++ [35] ++ r) ∧ (idv (idS i ++ [35] ++ r) 3 : Nat) = i.toNat ∧ (idS i ++ [35] ++ r).drop 4 = r := by
  have e0 : nib (dig ((i / 256).toNat % 16)) = some ((i / 256).toNat % 16) := nib_dig _ (by omega)
  have e1 : nib (dig ((i % 256).toNat / 16)) = some ((i % 256).toNat / 16) := nib_dig _ (by omega)
  have e2 : nib (dig ((i % 256).toNat % 16)) = some ((i % 256).toNat % 16) := nib_dig _ (by omega)
  refine ⟨⟨by simp [idS], by simp [idS], fun j hj => ?_⟩, ?_, by simp [idS]⟩
  · rcases (show j = 0 ∨ j = 1 ∨ j = 2 by omega) with rfl | rfl | rfl
    · simp [idS, e0]
    · simp [idS, e1]
    · simp [idS, e2]
  · simp [idv, nv, idS, e0, e1, e2]
    omega
theorem parse_show {f : Fr} (h : check f = 0) : parseS (showS f).1 = (f, 0) := by
  obtain ⟨h1, h2, h3, h4⟩ := checkN_lt h
  rw [showS_ok h]
  obtain ⟨i, r, l⟩ := f
  simp only at *
  obtain ⟨g1, g2, g3⟩ := idS_nv h1 h2 (if r = true then [82] else hexS l)
  rw [parseS_ok g1, g2, g3]
  have e : ((i.toNat : Nat) : Int) = i := by omega
  cases r with
  | true =>
    have hl : l = [] := List.eq_nil_of_length_eq_zero (h4 rfl)
    subst hl
    rw [if_pos (by simp), e]
    unfold chk
    rw [if_pos h]
  | false =>
    have hne : hexS l ≠ [82] := fun he => by
      have := congrArg List.length he
      rw [hexS_length] at this
      simp at this
      omega
    simp only [Bool.false_eq_true, if_false]
    rw [if_neg hne, pairs_hex, e]
    simp only
    unfold chk
    rw [if_pos h]
theorem chk_ok {f g : Fr} (h : chk f = (g, 0)) : g = f ∧ check f = 0 := by
  unfold chk at h
  split at h
  · rename_i hc
    injection h with h1 _
    exact ⟨h1.symm, hc⟩
  · rename_i hc
    injection h with _ h2
    exact absurd h2 hc
theorem split4 {s : List UInt8} (h : 4 ≤ s.length) : s = [s.getD 0 0, s.getD 1 0, s.getD 2 0] ++ [s.getD 3 0] ++ s.drop 4 := by
  match s, h with
  | a :: b :: c :: d :: r, _ => rfl
theorem id_back {s : List UInt8} (h : idOk s) : idS ((idv s 3 : Nat) : Int) = [s.getD 0 0, s.getD 1 0, s.getD 2 0] := by
  have h0 := h.2.2 0 (by omega); have h1 := h.2.2 1 (by omega); have h2 := h.2.2 2 (by omega)
  cases e0 : nib (s.getD 0 0) with
  | none => exact absurd e0 h0
  | some x => cases e1 : nib (s.getD 1 0) with
    | none => exact absurd e1 h1
    | some y => cases e2 : nib (s.getD 2 0) with
      | none => exact absurd e2 h2
      | some z =>
        have a := nib_lt e0; have b := nib_lt e1; have c := nib_lt e2
        have ev : idv s 3 = 256 * x + 16 * y + z := by
          simp only [idv, nv, e0, e1, e2, Option.getD_some]; omega
        rw [ev]
        unfold idS
        have x1 : (((256 * x + 16 * y + z : Nat) : Int) / 256).toNat % 16 = x := by omega
        have y1 : (((256 * x + 16 * y + z : Nat) : Int) % 256).toNat / 16 = y := by omega
        have z1 : (((256 * x + 16 * y + z : Nat) : Int) % 256).toNat % 16 = z := by omega
        rw [x1, y1, z1, dig_nib e0, dig_nib e1, dig_nib e2]
theorem show_parse {s : List UInt8} {f : Fr} (h : parseS s = (f, 0)) : showS f = (s, 0) := by
  by_cases hok : idOk s
  · rw [parseS_ok hok] at h
    have hs := split4 hok.1
    rw [hok.2.1, ← id_back hok] at hs
    split at h
    · rename_i h82
      obtain ⟨rfl, hc⟩ := chk_ok h
      rw [showS_ok hc]
      simp only [if_true]
      rw [← h82, ← hs]
    · split at h
      · injection h with _ h2; cases h2
      · rename_i d hd
        obtain ⟨rfl, hc⟩ := chk_ok h
        rw [showS_ok hc]
        simp only [Bool.false_eq_true, if_false]
        rw [hex_pairs _ _ hd, ← hs]
  · rw [parseS_bad hok] at h
    injection h with _ h2
    cases h2
/-- The lines of frames. -/
def linesOf (l : List Fr) : List UInt8 := l.flatMap fun f => (showS f).1 ++ [10]
theorem textF_ok : ∀ {l : List Fr} {t : List UInt8} {x : List UInt8}, textF l t = (x, 0) → x = t ++ linesOf l ∧ ∀ f ∈ l, check f = 0
  | [], t, x, h => by
    simp only [textF] at h
    injection h with h1 _
    exact ⟨by simp [linesOf, h1], by simp⟩
  | f :: l, t, x, h => by
    simp only [textF] at h
    split at h
    · rename_i hf
      rw [showS_err] at hf
      obtain ⟨h1, h2⟩ := textF_ok h
      refine ⟨by rw [h1]; simp [linesOf], fun g hg => ?_⟩
      rcases List.mem_cons.1 hg with rfl | hg
      · exact hf
      · exact h2 g hg
    · rename_i hf
      injection h with _ h2
      exact absurd h2 hf
theorem linesF_of : ∀ (l : List Fr) (k : Nat) (acc : List Fr), (∀ f ∈ l, check f = 0) → l.length < k → linesF k (linesOf l) acc = (acc ++ l, 0, 0)
  | [], k + 1, acc, _, _ => by simp [linesF, linesOf]
  | f :: l, k + 1, acc, h, hk => by
    have hf := h f List.mem_cons_self
    have e : linesOf (f :: l) = (showS f).1 ++ 10 :: linesOf l := by simp [linesOf]
    have hne : (showS f).1 ++ 10 :: linesOf l ≠ [] := by simp
    rw [e, linesF, if_neg hne, lineS_app _ _ showS_ne]
    simp only [parse_show hf, if_true]
    rw [linesF_of l k (acc ++ [f]) (fun g hg => h g (List.mem_cons_of_mem _ hg)) (by simp at hk; omega)]
    simp
theorem linesOf_length : ∀ (l : List Fr), l.length ≤ (linesOf l).length
  | [] => by simp [linesOf]
  | f :: l => by
    have := linesOf_length l
    have e : linesOf (f :: l) = (showS f).1 ++ 10 :: linesOf l := by simp [linesOf]
    rw [e]
    simp
    omega
theorem lines_text {l : List Fr} {x : List UInt8} (h : textS l = (x, 0)) : linesS x = (l, 0, 0) := by
  obtain ⟨h1, h2⟩ := textF_ok h
  rw [List.nil_append] at h1
  subst h1
  have := linesOf_length l
  unfold linesS
  rw [linesF_of l _ [] h2 (by omega)]
  rfl
end Go.Proofs.Ythfhhkjnmpiieaa.Can
