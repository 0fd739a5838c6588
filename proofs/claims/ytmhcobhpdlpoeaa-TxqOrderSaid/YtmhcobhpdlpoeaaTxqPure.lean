/-
  Layer 12 as plain functions: a queue of frames in the order of the bus.
  Conditions: none.
-/
import Derived.Test.YtmhcobhpdlpoeaaFrmPure
namespace Go.Proofs.Ytmhcobhpdlpoeaa.Can
set_option linter.unusedVariables false
set_option linter.unusedSimpArgs false
/-- The place of the first frame of a list that f goes ahead of. -/
def upS (f : Fr) : List Fr → Nat
  | [] => 0
  | x :: l => if before f x = true then 0 else upS f l + 1
def insS (f : Fr) (l : List Fr) : List Fr := l.take (upS f l) ++ f :: l.drop (upS f l)
theorem upS_le (f : Fr) : ∀ l, upS f l ≤ l.length
  | [] => Nat.le_refl _
  | x :: l => by
    unfold upS
    split
    · exact Nat.zero_le _
    · have := upS_le f l; simp; omega
theorem upS_at {f : Fr} : ∀ {l : List Fr} {k : Nat}, k < l.length → before f (l.getD k zero) = true → (∀ j, j < k → before f (l.getD j zero) = false) → upS f l = k
  | [], k, h, _, _ => by simp at h
  | x :: l, 0, _, h, _ => by unfold upS; rw [if_pos (by simpa using h)]
  | x :: l, k + 1, hk, h, hn => by
    have h0 : before f x = false := by have := hn 0 (by omega); simpa using this
    unfold upS
    rw [if_neg (by rw [h0]; exact Bool.false_ne_true), upS_at (l := l) (k := k) (by simp at hk; omega) (by simpa using h) fun j hj => by have := hn (j + 1) (by omega); simpa using this]
theorem upS_end {f : Fr} : ∀ {l : List Fr}, (∀ j, j < l.length → before f (l.getD j zero) = false) → upS f l = l.length
  | [], _ => rfl
  | x :: l, hn => by
    have h0 : before f x = false := by have := hn 0 (by simp); simpa using this
    unfold upS
    rw [if_neg (by rw [h0]; exact Bool.false_ne_true), upS_end (l := l) fun j hj => by have := hn (j + 1) (by simp; omega); simpa using this]
    rfl
theorem insS_length (f : Fr) (l : List Fr) : (insS f l).length = l.length + 1 := by
  have := upS_le f l
  unfold insS
  simp only [List.length_append, List.length_cons, List.length_take, List.length_drop]
  omega
theorem insS_cons (f x : Fr) (l : List Fr) : insS f (x :: l) = if before f x = true then f :: x :: l else x :: insS f l := by
  unfold insS
  conv => lhs; rw [upS]
  split
  · rfl
  · simp
/-- The place of the first one of a list, as it is after k of them. -/
def firstTo (l : List Fr) : Nat → Nat
  | 0 => 0
  | k + 1 => if before (l.getD k zero) (l.getD (firstTo l k) zero) = true then k else firstTo l k
def firstS (l : List Fr) : Nat := firstTo l l.length
theorem before_irrefl (f : Fr) : before f f = false := by
  unfold before beforeN
  cases f.rem <;> simp
theorem firstTo_one (l : List Fr) : firstTo l 1 = 0 := by
  simp [firstTo]
theorem firstTo_lt (l : List Fr) : ∀ k, 0 < k → firstTo l k < k
  | 0, h => by omega
  | k + 1, _ => by
    unfold firstTo
    split
    · omega
    · rcases Nat.eq_zero_or_pos k with h | h
      · subst h; simp [firstTo]
      · have := firstTo_lt l k h; omega
theorem firstS_lt {l : List Fr} (h : l ≠ []) : firstS l < l.length := firstTo_lt l _ (List.length_pos_iff.2 h)
def withoutS (l : List Fr) (k : Nat) : List Fr := l.take k ++ l.drop (k + 1)
theorem withoutS_length {l : List Fr} {k : Nat} (h : k < l.length) : (withoutS l k).length = l.length - 1 := by
  unfold withoutS
  simp only [List.length_append, List.length_take, List.length_drop]
  omega
/-- All of a list, in the order in which they go. -/
def orderF : Nat → List Fr → List Fr
  | 0, _ => []
  | n + 1, l => if l = [] then [] else l.getD (firstS l) zero :: orderF n (withoutS l (firstS l))
def orderS (l : List Fr) : List Fr := orderF l.length l
theorem orderS_nil : orderS [] = [] := rfl
theorem orderS_cons {l : List Fr} (h : l ≠ []) : orderS l = l.getD (firstS l) zero :: orderS (withoutS l (firstS l)) := by
  have hl := withoutS_length (firstS_lt h)
  have hp := List.length_pos_iff.2 h
  unfold orderS
  obtain ⟨n, hn⟩ : ∃ n, l.length = n + 1 := ⟨l.length - 1, by omega⟩
  rw [hn, orderF, if_neg h, hl, hn, Nat.add_sub_cancel]
theorem orderS_length : ∀ (n : Nat) (l : List Fr), l.length = n → (orderS l).length = n
  | 0, l, h => by
    obtain rfl := List.eq_nil_of_length_eq_zero h
    rfl
  | n + 1, l, h => by
    have hne : l ≠ [] := fun e => by rw [e] at h; cases h
    rw [orderS_cons hne, List.length_cons, orderS_length n _ (by rw [withoutS_length (firstS_lt hne), h]; rfl)]
theorem firstTo_append (l m : List Fr) : ∀ k, k ≤ l.length → firstTo (l ++ m) k = firstTo l k
  | 0, _ => rfl
  | k + 1, h => by
    have ih := firstTo_append l m k (by omega)
    have hk : firstTo l k < l.length := by
      rcases Nat.eq_zero_or_pos k with h0 | h0
      · subst h0; simp [firstTo]; omega
      · have := firstTo_lt l k h0; omega
    have e1 : (l ++ m).getD k zero = l.getD k zero := by simp [List.getD, List.getElem?_append_left (show k < l.length by omega)]
    have e2 : (l ++ m).getD (firstTo l k) zero = l.getD (firstTo l k) zero := by simp [List.getD, List.getElem?_append_left hk]
    rw [firstTo, firstTo, ih, e1, e2]
/-- A frame put behind all others comes where it goes. -/
theorem orderS_append : ∀ (n : Nat) (l : List Fr) (f : Fr), l.length = n → orderS (l ++ [f]) = insS f (orderS l)
  | 0, l, f, h => by
    obtain rfl := List.eq_nil_of_length_eq_zero h
    simp [orderS, orderF, insS, upS, firstS, firstTo, withoutS]
  | n + 1, l, f, h => by
    have hne : l ≠ [] := fun e => by rw [e] at h; cases h
    have hne' : l ++ [f] ≠ [] := by simp
    have hlt := firstS_lt hne
    have hf : firstS (l ++ [f]) = if before f (l.getD (firstS l) zero) = true then l.length else firstS l := by
      unfold firstS
      rw [List.length_append, List.length_singleton, firstTo, firstTo_append l [f] _ (Nat.le_refl _)]
      have e1 : (l ++ [f]).getD l.length zero = f := by simp [List.getD]
      have e2 : (l ++ [f]).getD (firstTo l l.length) zero = l.getD (firstTo l l.length) zero := by
        have : firstTo l l.length < l.length := hlt
        simp [List.getD, List.getElem?_append_left this]
      rw [e1, e2]
    rw [orderS_cons hne', hf, orderS_cons hne, insS_cons]
    split
    · have e1 : (l ++ [f]).getD l.length zero = f := by simp [List.getD]
      have e2 : withoutS (l ++ [f]) l.length = l := by unfold withoutS; simp
      rw [e1, e2, orderS_cons hne]
    · have e1 : (l ++ [f]).getD (firstS l) zero = l.getD (firstS l) zero := by simp [List.getD, List.getElem?_append_left hlt]
      have e2 : withoutS (l ++ [f]) (firstS l) = withoutS l (firstS l) ++ [f] := by
        unfold withoutS
        rw [List.take_append_of_le_length (by omega), List.drop_append_of_le_length (by omega), List.append_assoc]
      rw [e1, e2, orderS_append n _ f (by rw [withoutS_length hlt, h]; rfl)]
end Go.Proofs.Ytmhcobhpdlpoeaa.Can
