/-
  Texts joined: EdsSpa.
  Conditions: none.
-/
import Derived.Test.YtmolmpgampmolaaJ22
/-
  Layer 17, plain laws: blanks and remarks between tokens change nothing.
  Conditions: none.
-/
namespace Go.Proofs.Ytmolmpgampmolaa.Ed
set_option linter.unusedVariables false
set_option linter.unusedSimpArgs false
open Lx Ent
def sepS (i : Nat) : List UInt8 := if i % 3 = 0 then [32, 9] else if i % 3 = 1 then [10] else [33, 32, 110, 111, 10]
def spaS : Nat → List Tk → List UInt8
  | _, [] => []
  | i, t :: ts => t.text ++ sepS i ++ spaS (i + 1) ts
theorem sep_cons (i : Nat) : ∃ x y, sepS i = x :: y ∧ Sep x ∧ ∀ b, skip false (sepS i ++ b) = skip false b := by
  unfold sepS
  split
  · exact ⟨_, _, rfl, .inr (.inl rfl), fun b => rfl⟩
  · split
    · exact ⟨_, _, rfl, .inl rfl, fun b => rfl⟩
    · exact ⟨_, _, rfl, .inr (.inr rfl), fun b => rfl⟩
theorem sk_spa : ∀ {ts : List Tk} {l : List UInt8} (i : Nat), Rd l ts → Sk (spaS i ts) ts
  | [], l, i, h => sk_nil
  | t :: ts, l, i, h => by
    have ho := rd_own h
    have h0 : (tok t.text).2 = 0 := by rw [ho]
    have hne : t.text ≠ [] := by
      intro e
      rw [e] at h0
      cases h0
    obtain ⟨x, y, hs, hx, hk⟩ := sep_cons i
    have ih := sk_spa (i + 1) h.2.2
    have ht : tok (t.text ++ (sepS i ++ spaS (i + 1) ts)) = ({ t with pl := 0 }, 0) := by
      rw [hs, List.cons_append, tok_app hx _ hne (.inl h0), ho]
    have h2 : (tok (t.text ++ (sepS i ++ spaS (i + 1) ts))).2 = 0 := by rw [ht]
    have hsk := skip_tok (b := []) h2
    rw [List.append_nil] at hsk
    unfold Sk
    rw [spaS, List.append_assoc, hsk]
    refine ⟨?_, ht, ?_⟩
    · intro e
      rw [e] at h2
      cases h2
    · rw [List.drop_left' rfl, hk]
      exact ih
theorem sep_len (i : Nat) : (sepS i).length ≤ 5 := by
  unfold sepS
  repeat' split
  all_goals decide
theorem spa_len : ∀ {ts : List Tk} {l : List UInt8} (i : Nat), Rd l ts → (spaS i ts).length ≤ 6 * l.length
  | [], _, _, _ => Nat.zero_le _
  | t :: ts, l, i, h => by
    have h1 := tok_len (s := l) (by rw [h.2.1])
    rw [h.2.1] at h1
    dsimp only at h1
    have h2 := spa_len (i + 1) h.2.2
    have h3 := skip_len false (l.drop t.text.length)
    have h4 := sep_len i
    rw [List.length_drop] at h3
    rw [spaS, List.length_append, List.length_append]
    omega
theorem spa_step {ts : List Tk} {k : Nat} (h : k < ts.length) : spaS k (ts.drop k) = (ts.getD k tk0).text ++ sepS k ++ spaS (k + 1) (ts.drop (k + 1)) := by
  have : ts.getD k tk0 = ts[k] := by simp [List.getD, List.getElem?_eq_getElem h]
  rw [this, List.drop_eq_getElem_cons h, spaS]
/-- Of a text that is read as tokens: what is read of the tokens with blanks and remarks. -/
theorem parse_spa {s : List UInt8} {ts : List Tk} {q : Nat} (h : s.length ≤ 2000) (hs : scanS s = (ts, 0, q)) : (spaS 0 ts).length ≤ 12000 ∧ ((spaS 0 ts).length ≤ 8192 → (parseS (spaS 0 ts)).1 = (parseS s).1 ∧ (parseS (spaS 0 ts)).2.1 = (parseS s).2.1) := by
  rcases scanS_all (s := s) (by omega) with ⟨us, h1, _, h2⟩ | ⟨us, e, r, h1, h0, _, _⟩
  · rw [hs] at h1
    cases h1
    have hl := spa_len 0 h2
    have h3 := skip_len false s
    refine ⟨by omega, fun h8 => ?_⟩
    obtain ⟨a1, a2⟩ := parse_rd h8 (sk_spa 0 h2)
    obtain ⟨b1, b2⟩ := parse_rd (s := s) (by omega) h2
    obtain ⟨c1, c2⟩ := par_z (l := ts) (m := ts) rfl (spaS 0 ts).length s.length (ts.length + 1) 0 []
    exact ⟨by rw [a1, b1, c1], by rw [a2, b2, c2]⟩
  · rw [hs] at h1
    cases h1
    exact absurd rfl h0
end Go.Proofs.Ytmolmpgampmolaa.Ed
