/-
  Texts joined: EdsTab.
  Conditions: none.
-/
import Derived.Test.YtmolmpgampmolaaJ20
/-
  Layer 17, plain laws: what was read makes a dictionary; where a fault stands.
  Conditions: none.
-/
namespace Go.Proofs.Ytmolmpgampmolaa.Ed
set_option linter.unusedVariables false
set_option linter.unusedSimpArgs false
open Lx Ent
theorem newF_of {l : List En} : ∀ (k i : Nat), k + i = l.length → (∀ j, i ≤ j → j < l.length → rightS (l.getD j Dc.en0) = 0 ∧ (0 < j → befB (l.getD (j - 1) Dc.en0) (l.getD j Dc.en0) = true)) → Dc.newF l k i = (0, 0)
  | 0, i, _, _ => rfl
  | k + 1, i, hk, h => by
    obtain ⟨h1, h2⟩ := h i (Nat.le_refl _) (by omega)
    rw [Dc.newF, if_neg (by rw [h1]; simp), if_neg (by rintro ⟨h3, h4⟩; rw [h2 h3] at h4; cases h4)]
    exact newF_of k (i + 1) (by omega) fun j hj hl => h j (by omega) hl
theorem new_of {l : List En} (h96 : l.length ≤ 96) (ho : Dc.Ord l) (hr : ∀ e ∈ l, rightS e = 0) : Dc.newS l = (0, 0) := by
  unfold Dc.newS
  rw [if_neg (by omega)]
  refine newF_of _ _ (by omega) fun j _ hj => ⟨?_, fun h0 => ?_⟩
  · have : l.getD j Dc.en0 = l[j] := by simp [List.getD, List.getElem?_eq_getElem hj]
    rw [this]
    exact hr _ (List.getElem_mem hj)
  · have := ho (j - 1) (by omega)
    rwa [show j - 1 + 1 = j by omega] at this
theorem new_nil : (Dc.newS []).1 = 0 := rfl
theorem new_snoc {out : List En} {e : En} (h : (Dc.newS out).1 = 0) (hr : rightS e = 0) (h96 : out.length ≠ 96) (hb : ¬ (0 < out.length ∧ befB (out.getD (out.length - 1) Dc.en0) e = false)) : (Dc.newS (out ++ [e])).1 = 0 := by
  obtain ⟨k1, k2, k3⟩ := Dc.new_ok h
  rw [new_of]
  · rw [List.length_append, List.length_singleton]; omega
  · intro i hi
    rw [List.length_append, List.length_singleton] at hi
    have g : ∀ j, j < out.length → (out ++ [e]).getD j Dc.en0 = out.getD j Dc.en0 := fun j hj => by
      simp only [List.getD_eq_getElem?_getD]
      rw [List.getElem?_append_left hj]
    rcases Nat.lt_or_ge (i + 1) out.length with h1 | h1
    · rw [g i (by omega), g (i + 1) h1]
      exact k2 i h1
    · have h2 : i + 1 = out.length := by omega
      have g2 : (out ++ [e]).getD (i + 1) Dc.en0 = e := by
        simp only [List.getD_eq_getElem?_getD]
        rw [List.getElem?_append_right (by omega), show i + 1 - out.length = 0 by omega]
        rfl
      rw [g i (by omega), g2]
      cases hbb : befB (out.getD i Dc.en0) e with
      | true => rfl
      | false => exact absurd ⟨by omega, by rw [show out.length - 1 = i by omega]; exact hbb⟩ hb
  · intro x hx
    rcases List.mem_append.1 hx with hx | hx
    · exact k3 x hx
    · rw [List.mem_singleton.1 hx]; exact hr
theorem par_new {l : List Tk} {n : Nat} : ∀ (k p : Nat) (out : List En), (Dc.newS out).1 = 0 → (Dc.newS (parF l n k p out).1).1 = 0
  | 0, _, out, h => h
  | k + 1, p, out, h => by
    rw [parF]
    split
    · exact h
    · split
      · exact new_nil
      · split
        · exact new_nil
        · rename_i h1 h2 h3
          refine par_new k _ _ ?_
          have h3' : finS out (entE l ⟨p, 0⟩) (entV l ⟨p, 0⟩) = 0 := by simpa using h3
          unfold finS at h3'
          split at h3'
          · rename_i h4; exact absurd h3' h4
          · split at h3'
            · rename_i h4; exact absurd h3' h4
            · rename_i h5
              split at h3'
              · cases h3'
              · rename_i h6
                split at h3'
                · cases h3'
                · rename_i h7
                  exact new_snoc h (by simpa using h5) h6 h7
/-- What is read of a text makes a dictionary. -/
theorem parse_new (s : List UInt8) : (Dc.newS (parseS s).1).1 = 0 := by
  unfold parseS
  split
  · exact new_nil
  · exact par_new _ _ _ new_nil
theorem par_bad_nil {l : List Tk} {n : Nat} : ∀ (k p : Nat) (out : List En), (parF l n k p out).2.1 ≠ 0 → (parF l n k p out).1 = []
  | 0, _, out, h => absurd rfl h
  | k + 1, p, out, h => by
    rw [parF] at h ⊢
    split
    · rename_i h1; rw [if_pos h1] at h; exact absurd rfl h
    · rename_i h1
      rw [if_neg h1] at h
      split
      · rfl
      · rename_i h2
        rw [if_neg h2] at h
        split
        · rfl
        · rename_i h3
          rw [if_neg h3] at h
          exact par_bad_nil k _ _ h
theorem pl_place {s : List UInt8} : ∀ {ts : List Tk} {p : Nat}, Pl s p ts → ∀ t ∈ ts, t.pl ≤ s.length
  | [], _, _, _, h => by cases h
  | t :: ts, p, h, u, hu => by
    rcases List.mem_cons.1 hu with rfl | hu
    · exact Nat.le_of_lt h.2.1
    · exact pl_place h.2.2.2.2 u hu
theorem place_le {l : List Tk} {n : Nat} (h : ∀ t ∈ l, t.pl ≤ n) (p : Nat) : placeS l n p ≤ n := by
  unfold placeS
  split
  · rename_i hp
    have : l.getD p tk0 = l[p] := by simp [List.getD, List.getElem?_eq_getElem hp]
    rw [this]
    exact h _ (List.getElem_mem hp)
  · exact Nat.le_refl _
theorem par_place_le {l : List Tk} {n : Nat} (hl : ∀ t ∈ l, t.pl ≤ n) : ∀ (k p : Nat) (out : List En), (parF l n k p out).2.2 ≤ n
  | 0, _, _ => Nat.zero_le _
  | k + 1, p, out => by
    rw [parF]
    split
    · exact Nat.zero_le _
    · split
      · exact place_le hl _
      · split
        · exact place_le hl _
        · exact par_place_le hl k _ _
theorem parse_bad (s : List UInt8) (h : (parseS s).2.1 ≠ 0) : (parseS s).1 = [] ∧ (parseS s).2.2 ≤ s.length := by
  unfold parseS at h ⊢
  by_cases hb : 8192 < s.length
  · have : scanS s = ([], 3, 0) := if_pos hb
    rw [this, if_pos (by simp)]
    exact ⟨rfl, Nat.zero_le _⟩
  · rcases scanS_all (s := s) (by omega) with ⟨ts, h1, h2, _⟩ | ⟨ts, e, r, h1, h0, _, _⟩
    · rw [h1] at h ⊢
      dsimp only at h ⊢
      rw [if_neg (by simp)] at h ⊢
      exact ⟨par_bad_nil _ _ _ h, par_place_le (pl_place h2) _ _ _⟩
    · rw [h1]
      dsimp only
      rw [if_pos h0]
      exact ⟨rfl, Nat.sub_le _ _⟩
theorem right_dflt {e : En} (h : rightS e = 0) : e.dflt.length ≤ 256 := by
  have hc := show_ok h
  by_cases hb : 0 < (Ty.kd e.type).bits
  · rw [chk_num (num_named hb) hb] at hc
    have hs : (Ty.kd e.type).size ≤ 8 := by
      rcases kd_num e.type with h1 | h1 | h1
      · omega
      · omega
      · omega
    unfold Ty.decS at hc
    rw [if_neg (by omega)] at hc
    split at hc
    · cases hc
    · split at hc
      · cases hc
      · omega
  · exact chk_small hc (by omega)
theorem right_lens {l : List En} (h : ∀ e ∈ l, rightS e = 0) : ∀ e ∈ l, e.name.length ≤ 1000000 ∧ e.dflt.length ≤ 1000000 := fun e he => by
  have h1 := (right_more (h e he)).2.2.2.2.1
  have h2 := right_dflt (h e he)
  omega
theorem print_ok {l : List En} (h : (printS l).2.1 = 0) : (Dc.newS l).1 = 0 ∧ (allT l).length ≤ 8192 ∧ printS l = (allT l, 0, 0) := by
  unfold printS at h ⊢
  split at h
  · rename_i h1; exact absurd h h1
  · rename_i h1
    rw [if_neg h1]
    split at h
    · cases h
    · rename_i h2
      rw [if_neg h2]
      exact ⟨by simpa using h1, by omega, rfl⟩
theorem print_bad {l : List En} (h : (printS l).2.1 ≠ 0) : (printS l).1 = [] := by
  unfold printS at h ⊢
  split
  · rfl
  · rename_i h1
    rw [if_neg h1] at h
    split
    · rfl
    · rename_i h2; rw [if_neg h2] at h; exact absurd rfl h
/-- Of a dictionary's entries. -/
theorem print_new {l : List En} (h : (Dc.newS l).1 = 0) : printS l = ([], 3, 0) ∨ ((allT l).length ≤ 8192 ∧ printS l = (allT l, 0, 0)) := by
  unfold printS
  rw [if_neg (by rw [h]; simp)]
  split
  · exact .inl rfl
  · exact .inr ⟨by omega, rfl⟩
end Go.Proofs.Ytmolmpgampmolaa.Ed
