/-
  Walks: types.unquote, the reference's text.
  Conditions: none.
-/
import Derived.Test.YtnppihlalhaldaaTypQuo
namespace Go.Proofs.Ytnppihlalhaldaa
set_option linter.unusedVariables false
set_option linter.unusedSimpArgs false
open Go.RowKit
def UnqPost (o : Option (List UInt8)) (w : World) (e : Ending) (w' : World) : Prop :=
  ∃ A n c, Below w.heap.size w w' ∧ match o with
    | some b => e = .returned (.tuple #[.slice A n c, .bool true]) ∧ OB w' w.heap.size A n c b
    | none => e = .returned (.tuple #[.slice A n c, .bool false])
theorem unq_no {o : Option (List UInt8)} {w w' : World} {A : Option Addr} {n c : Nat} (h : o = none) (hb : Below w.heap.size w w') : UnqPost o w (.returned (.tuple #[.slice A n c, .bool false])) w' := by
  subst h; exact ⟨A, n, c, hb, rfl⟩
theorem unq_yes {o : Option (List UInt8)} {w w' : World} {A : Option Addr} {n c : Nat} {b : List UInt8} (h : o = some b) (ho : OB w' w.heap.size A n c b) (hb : Below w.heap.size w w') : UnqPost o w (.returned (.tuple #[.slice A n c, .bool true])) w' := by
  subst h; exact ⟨A, n, c, hb, rfl, ho⟩
/-- What is left, with the sign ahead that masks. -/
def st (m : Bool) (t : List UInt8) : List UInt8 := if m = true then 92 :: t else t
theorem un_masked_no {c : UInt8} {r : List UInt8} (h : Ty.mark c = false) : Ty.unF (92 :: c :: r) = none := by
  rw [Ty.unF, if_neg (by decide), if_pos rfl, if_neg (by rw [h]; decide)]
theorem un_masked_yes {c : UInt8} {r : List UInt8} (h : Ty.mark c = true) : Ty.unF (92 :: c :: r) = (Ty.unF r).map (c :: ·) := by
  rw [Ty.unF, if_neg (by decide), if_pos rfl, if_pos h]
theorem un_sign (r : List UInt8) : Ty.unF (34 :: r) = none := by
  cases r with
  | nil => rfl
  | cons d r => rw [Ty.unF, if_pos rfl]
theorem un_plain {c : UInt8} (r : List UInt8) (h : Ty.mark c = false) : Ty.unF (c :: r) = (Ty.unF r).map (c :: ·) := by
  have h34 : c ≠ 34 := fun e => by rw [e] at h; cases h
  have h92 : c ≠ 92 := fun e => by rw [e] at h; cases h
  cases r with
  | nil => simp [Ty.unF, h]
  | cons d r => rw [Ty.unF, if_neg h34, if_neg h92]
theorem map_snoc (o : Option (List UInt8)) (out : List UInt8) (c : UInt8) : (o.map (c :: ·)).map (out ++ ·) = o.map ((out ++ [c]) ++ ·) := by cases o <;> simp
/-- What the loop has behind j bytes. -/
structure UnRel (t : List UInt8) (j : Nat) (m : Bool) (out : List UInt8) : Prop where
  val : Ty.unF t = (Ty.unF (st m (t.drop j))).map (out ++ ·)
  len : out.length ≤ j
theorem UnRel.start (t : List UInt8) : UnRel t 0 false [] := ⟨by simp [st], by simp⟩
theorem drop_at {t : List UInt8} {j : Nat} (hj : j < t.length) : t.drop j = t.getD j 0 :: t.drop (j + 1) := by
  rw [List.drop_eq_getElem_cons hj]; simp [List.getD, hj]
theorem UnRel.bad {t : List UInt8} {j : Nat} {m : Bool} {out : List UInt8} (h : UnRel t j m out) (hj : j < t.length) (hc : (m = true ∧ Ty.mark (t.getD j 0) = false) ∨ (m = false ∧ t.getD j 0 = 34)) : Ty.unF t = none := by
  have := h.val
  rw [drop_at hj] at this
  rcases hc with ⟨rfl, hc⟩ | ⟨rfl, hc⟩
  · rw [st, if_pos rfl, un_masked_no hc] at this; exact this
  · rw [st, if_neg (by decide), hc, un_sign] at this; exact this
theorem UnRel.mask {t : List UInt8} {j : Nat} {out : List UInt8} (h : UnRel t j false out) (hj : j < t.length) (hc : t.getD j 0 = 92) : UnRel t (j + 1) true out := by
  refine ⟨?_, by have := h.len; omega⟩
  rw [h.val, drop_at hj, hc]
  rfl
theorem UnRel.push {t : List UInt8} {j : Nat} {m : Bool} {out : List UInt8} (h : UnRel t j m out) (hj : j < t.length) (hc : m = Ty.mark (t.getD j 0)) : UnRel t (j + 1) false (out ++ [t.getD j 0]) := by
  refine ⟨?_, by have := h.len; simp; omega⟩
  rw [h.val, drop_at hj]
  cases m with
  | true => rw [st, if_pos rfl, un_masked_yes hc.symm, map_snoc]; rfl
  | false => rw [st, if_neg (by decide), un_plain _ hc.symm, map_snoc]; rfl
theorem UnRel.done {t : List UInt8} {m : Bool} {out : List UInt8} (h : UnRel t t.length m out) : Ty.unF t = if m = true then none else some out := by
  have := h.val
  rw [List.drop_length] at this
  rw [this]
  cases m with
  | true => rfl
  | false => simp [st, Ty.unF]
theorem unq_mid (t : List UInt8) : Ty.unq (34 :: (t ++ [34])) = Ty.unF t := by
  unfold Ty.unq
  rw [if_pos ⟨by simp, rfl, by rw [← List.cons_append, List.getLast?_append]; rfl⟩]
  simp only [List.tail_cons]
  rw [List.dropLast_concat]
theorem unq_bad {s : List UInt8} (h : s.length < 2 ∨ s.getD 0 0 ≠ 34 ∨ s.getD (s.length - 1) 0 ≠ 34) : Ty.unq s = none := by
  unfold Ty.unq
  rw [if_neg]
  rintro ⟨h1, h2, h3⟩
  have hne : s ≠ [] := by rintro rfl; simp at h1
  rcases h with h | h | h
  · omega
  · apply h
    cases s with
    | nil => simp at h1
    | cons a r => simp at h2; rw [h2]; rfl
  · apply h
    rw [List.getLast?_eq_getElem?] at h3
    simp [List.getD, h3]
theorem unq_split {s : List UInt8} (h1 : 2 ≤ s.length) (h2 : s.getD 0 0 = 34) (h3 : s.getD (s.length - 1) 0 = 34) : ∃ t : List UInt8, s = 34 :: (t ++ [34]) ∧ t.length = s.length - 2 ∧ ∀ j, j < t.length → s.getD (j + 1) 0 = t.getD j 0 := by
  cases s with
  | nil => simp at h1
  | cons a r =>
    have hr : r ≠ [] := by rintro rfl; simp at h1
    have ha : a = 34 := h2
    subst ha
    obtain ⟨d, z, rfl⟩ : ∃ d z, r = d ++ [z] := ⟨r.dropLast, r.getLast hr, (List.dropLast_concat_getLast hr).symm⟩
    have hz : z = 34 := by simpa [List.getD] using h3
    subst hz
    refine ⟨d, rfl, by simp, fun j hj => ?_⟩
    show (d ++ [34]).getD j 0 = _
    simp [List.getD, List.getElem?_append_left hj]
end Go.Proofs.Ytnppihlalhaldaa
