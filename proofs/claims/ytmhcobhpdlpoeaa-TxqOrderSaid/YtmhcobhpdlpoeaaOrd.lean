/-
  Plain laws: the first one of a list, and what is left of a list.
  Conditions: none.
-/
import Derived.Test.YtmhcobhpdlpoeaaTxqPure
namespace Go.Proofs.Ytmhcobhpdlpoeaa.Can
set_option linter.unusedVariables false
set_option linter.unusedSimpArgs false
theorem beforeN_trans {i : Int} {r : Bool} {i' : Int} {r' : Bool} {i2 : Int} {r2 : Bool} (h : beforeN i r i' r' = true) (h' : beforeN i' r' i2 r2 = true) : beforeN i r i2 r2 = true := by
  unfold beforeN at *
  simp only [Bool.or_eq_true, Bool.and_eq_true, decide_eq_true_eq, Bool.not_eq_true'] at *
  rcases h with h | ⟨⟨h1, h2⟩, h3⟩
  · rcases h' with h' | ⟨⟨h4, h5⟩, h6⟩
    · left; omega
    · left; omega
  · rcases h' with h' | ⟨⟨h4, h5⟩, h6⟩
    · left; omega
    · rw [h3] at h5; cases h5
theorem beforeN_split {i : Int} {r : Bool} {i' : Int} {r' : Bool} (i2 : Int) (r2 : Bool) (h : beforeN i r i' r' = true) : beforeN i r i2 r2 = true ∨ beforeN i2 r2 i' r' = true := by
  unfold beforeN at *
  simp only [Bool.or_eq_true, Bool.and_eq_true, decide_eq_true_eq, Bool.not_eq_true'] at *
  rcases h with h | ⟨⟨h1, h2⟩, h3⟩
  · by_cases h4 : i < i2
    · exact .inl (.inl h4)
    · right; left; omega
  · subst h1 h2 h3
    by_cases h4 : i < i2
    · exact .inl (.inl h4)
    · by_cases h5 : i2 < i
      · exact .inr (.inl h5)
      · obtain rfl : i = i2 := by omega
        cases r2
        · exact .inr (.inr ⟨⟨rfl, rfl⟩, rfl⟩)
        · exact .inl (.inr ⟨⟨rfl, rfl⟩, rfl⟩)
theorem before_trans {a b c : Fr} (h : before a b = true) (h' : before b c = true) : before a c = true := beforeN_trans h h'
theorem before_split {a b : Fr} (c : Fr) (h : before a b = true) : before a c = true ∨ before c b = true := beforeN_split c.id c.rem h
theorem before_key {a b : Fr} (h1 : a.id = b.id) (h2 : a.rem = b.rem) : before a b = false := by
  unfold before
  rw [h1, h2]
  exact before_irrefl b
theorem firstTo_min (l : List Fr) : ∀ m, ∀ p, p < m → before (l.getD p zero) (l.getD (firstTo l m) zero) = false
  | 0, _, h => by omega
  | m + 1, p, h => by
    have ih := firstTo_min l m
    unfold firstTo
    split
    · rename_i hb
      rcases Nat.lt_or_ge p m with h1 | h1
      · cases e : before (l.getD p zero) (l.getD m zero) with
        | false => rfl
        | true =>
          have h3 := before_trans e hb
          rw [ih p h1] at h3
          cases h3
      · obtain rfl : p = m := by omega
        exact before_irrefl _
    · rename_i hb
      rcases Nat.lt_or_ge p m with h1 | h1
      · exact ih p h1
      · obtain rfl : p = m := by omega
        exact Bool.eq_false_iff.2 hb
theorem firstTo_pre (l : List Fr) : ∀ m, ∀ p, p < firstTo l m → before (l.getD (firstTo l m) zero) (l.getD p zero) = true
  | 0, _, h => by exact absurd h (Nat.not_lt_zero _)
  | m + 1, p, h => by
    have ih := firstTo_pre l m
    have im := firstTo_min l m
    unfold firstTo at h ⊢
    split
    · rename_i hb
      rw [if_pos hb] at h
      rcases before_split (l.getD p zero) hb with h1 | h1
      · exact h1
      · rw [im p h] at h1; cases h1
    · rename_i hb
      rw [if_neg hb] at h
      exact ih p h
theorem first_min {l : List Fr} {p : Nat} (h : p < l.length) : before (l.getD p zero) (l.getD (firstS l) zero) = false := firstTo_min l _ p h
theorem first_pre {l : List Fr} {p : Nat} (h : p < firstS l) : before (l.getD (firstS l) zero) (l.getD p zero) = true := firstTo_pre l _ p h
def frs (L : List Fr) (R : List Nat) : List Fr := R.map fun j => L.getD j zero
/-- R: the places in L that are left, i of them gone; the last one gone was 'last', from 'place'. -/
structure Rest (L : List Fr) (R : List Nat) (i : Nat) (last : Fr) (place : Int) : Prop where
  sorted : R.Pairwise (· < ·)
  lt : ∀ j ∈ R, j < L.length
  len : R.length + i = L.length
  no : 0 < i → ∀ j ∈ R, before (L.getD j zero) last = false ∧ ((L.getD j zero).id = last.id → (L.getD j zero).rem = last.rem → place < (j : Int))
theorem frs_range (L : List Fr) : frs L (List.range L.length) = L := by
  unfold frs
  apply List.ext_getElem (by simp)
  intro i h1 h2
  simp [List.getD, h2]
theorem Rest.start (L : List Fr) (last : Fr) (place : Int) : Rest L (List.range L.length) 0 last place :=
  ⟨List.pairwise_lt_range, fun j hj => List.mem_range.1 hj, by simp, fun h => absurd h (by omega)⟩
theorem Rest.step {L : List Fr} {R : List Nat} {i : Nat} {last : Fr} {place : Int} (h : Rest L R i last place) (hi : i < L.length) :
    ∃ (m : Nat) (R' : List Nat), m ∈ R ∧ m < L.length ∧ orderS (frs L R) = L.getD m zero :: orderS (frs L R') ∧ (∀ j, j < m → j ∈ R → sameB (L.getD j zero) (L.getD m zero) = false) ∧
      Rest L R' (i + 1) (L.getD m zero) (m : Int) ∧ (∀ j, j ∈ R' ↔ j ∈ R ∧ j ≠ m) := by
  have hlen := h.len
  have hne : frs L R ≠ [] := fun e => by
    have : (frs L R).length = 0 := by rw [e]; rfl
    unfold frs at this
    rw [List.length_map] at this
    omega
  have hk := firstS_lt hne
  have hmin := fun p => @first_min (frs L R) p
  have hpre := fun p => @first_pre (frs L R) p
  have hoc := orderS_cons hne
  have hl : (frs L R).length = R.length := by unfold frs; rw [List.length_map]
  have hget : ∀ p (hp : p < R.length), (frs L R).getD p zero = L.getD R[p] zero := fun p hp => by
    unfold frs
    simp [List.getD, hp]
  generalize firstS (frs L R) = k at *
  have hkR : k < R.length := by omega
  have hwo : withoutS (frs L R) k = frs L (R.take k ++ R.drop (k + 1)) := by
    unfold withoutS frs
    rw [List.map_append, List.map_take, List.map_drop]
  have hR : R = R.take k ++ R[k] :: R.drop (k + 1) := by
    rw [← List.drop_eq_getElem_cons hkR, List.take_append_drop]
  have hsort := h.sorted
  rw [hR, List.pairwise_append] at hsort
  obtain ⟨s1, s2, s3⟩ := hsort
  rw [List.pairwise_cons] at s2
  obtain ⟨s4, s5⟩ := s2
  have hlow : ∀ j ∈ R.take k, j < R[k] := fun j hj => s3 j hj _ List.mem_cons_self
  have hup : ∀ j ∈ R.drop (k + 1), R[k] < j := s4
  have hmem : ∀ j, j ∈ R ↔ j ∈ R.take k ∨ j = R[k] ∨ j ∈ R.drop (k + 1) := fun j => by
    conv => lhs; rw [hR]
    rw [List.mem_append, List.mem_cons]
  have hbl : ∀ j ∈ R.take k, before (L.getD R[k] zero) (L.getD j zero) = true := fun j hj => by
    obtain ⟨p, hp, rfl⟩ := List.getElem_of_mem hj
    rw [List.length_take] at hp
    have := hpre p (by omega)
    rw [hget k hkR, hget p (by omega)] at this
    rw [List.getElem_take]
    exact this
  have hba : ∀ j ∈ R, before (L.getD j zero) (L.getD R[k] zero) = false := fun j hj => by
    obtain ⟨p, hp, rfl⟩ := List.getElem_of_mem hj
    have := hmin p (by omega)
    rw [hget k hkR, hget p hp] at this
    exact this
  refine ⟨R[k], R.take k ++ R.drop (k + 1), List.getElem_mem hkR, h.lt _ (List.getElem_mem hkR), ?_, fun j hj hjR => ?_, ⟨?_, fun j hj => ?_, ?_, fun _ j hj => ?_⟩, fun j => ?_⟩
  · rw [hoc, hget k hkR, hwo]
  · rcases (hmem j).1 hjR with h1 | h1 | h1
    · have hb := hbl j h1
      cases e : sameB (L.getD j zero) (L.getD R[k] zero) with
      | false => rfl
      | true =>
        rw [(sameB_iff _ _).1 e, before_irrefl] at hb
        cases hb
    · omega
    · have := hup j h1; omega
  · rw [List.pairwise_append]
    exact ⟨s1, s5, fun a ha b hb => by have := hlow a ha; have := hup b hb; omega⟩
  · refine h.lt j ((hmem j).2 ?_)
    rcases List.mem_append.1 hj with h1 | h1
    · exact .inl h1
    · exact .inr (.inr h1)
  · rw [List.length_append, List.length_take, List.length_drop]
    omega
  · have hjR : j ∈ R := (hmem j).2 (by rcases List.mem_append.1 hj with h1 | h1; exact .inl h1; exact .inr (.inr h1))
    refine ⟨hba j hjR, fun e1 e2 => ?_⟩
    rcases List.mem_append.1 hj with h1 | h1
    · have := hbl j h1
      rw [before_key e1.symm e2.symm] at this
      cases this
    · have := hup j h1; omega
  · rw [hmem, List.mem_append]
    constructor
    · rintro (h1 | h1)
      · exact ⟨.inl h1, by have := hlow j h1; omega⟩
      · exact ⟨.inr (.inr h1), by have := hup j h1; omega⟩
    · rintro ⟨h1 | h1 | h1, h2⟩
      · exact .inl h1
      · exact absurd h1 h2
      · exact .inr h1
end Go.Proofs.Ytmhcobhpdlpoeaa.Can
