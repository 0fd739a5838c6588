/-
  Plain laws of layer 16, as the statements ask for them.
  Conditions: none.
-/
import Derived.Test.YtnppihlalhaldaaLexLaws
import Derived.Test.YtnppihlalhaldaaLexOps
namespace Go.Proofs.Ytnppihlalhaldaa.Lx
set_option linter.unusedVariables false
set_option linter.unusedSimpArgs false
theorem rd_count : ∀ {ts : List Tk} {l : List UInt8}, Rd l ts → ts.length ≤ l.length
  | [], l, _ => Nat.zero_le _
  | t :: ts, l, h => by
    have h0 : (tok l).2 = 0 := by rw [h.2.1]
    have h1 := tok_len h0
    rw [h.2.1] at h1
    dsimp only at h1
    have h2 := rd_count h.2.2
    have h3 := skip_len false (l.drop t.text.length)
    rw [List.length_drop] at h3
    rw [List.length_cons]
    omega
theorem scan_cases {s : List UInt8} (h : s.length ≤ 8192) : (∃ ts, scanS s = (ts, 0, 0) ∧ Pl s 0 ts ∧ ts.length ≤ s.length) ∨ (∃ e q, scanS s = ([], e, q) ∧ e ≠ 0 ∧ q < s.length) := by
  rcases scanS_all h with ⟨ts, h1, h2, h3⟩ | ⟨ts, e, r, h1, h2, h3, h4⟩
  · refine .inl ⟨ts, h1, h2, ?_⟩
    have := rd_count h3
    have := skip_len false s
    omega
  · refine .inr ⟨e, _, h1, h2, ?_⟩
    have h5 := List.length_pos_iff.2 (er_ne h3)
    have := h4.length_le
    omega
theorem same_count {b : Bool} {l m : List Tk} (h : sameL b l m = true) : l.length = m.length := by
  by_cases hne : l.length = m.length
  · exact hne
  · rw [same_len hne] at h; cases h
/-- What Pl says of the token next in order. -/
theorem pl_step {s : List UInt8} {p : Nat} {t : Tk} {ts : List Tk} (h : Pl s p (t :: ts)) : p ≤ t.pl ∧ 1 ≤ t.text.length ∧ t.pl + t.text.length ≤ s.length ∧ (s.drop t.pl).take t.text.length = t.text ∧ skip false (s.drop p) = s.drop t.pl ∧ Pl s (t.pl + t.text.length) ts := by
  obtain ⟨h1, h2, h3, h4, h5⟩ := h
  have hp := tok_prefix h4
  have hlen := hp.1.length_le
  rw [List.length_drop] at hlen
  have h6 := List.length_pos_iff.2 hp.2
  dsimp only at hlen h6
  exact ⟨h1, h6, by omega, (List.prefix_iff_eq_take.1 hp.1).symm, h3.symm, h5⟩
end Go.Proofs.Ytnppihlalhaldaa.Lx
