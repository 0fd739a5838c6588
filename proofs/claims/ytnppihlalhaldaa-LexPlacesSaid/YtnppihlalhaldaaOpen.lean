/-
  Arguments as cells: structs of any fields, slices of any elements.
  Conditions: none.
-/
import Derived.Test.YtnppihlalhaldaaFrame
import Derived.Deep.Slices
namespace Go.Proofs.Ytnppihlalhaldaa
set_option linter.unusedVariables false
set_option linter.unusedSimpArgs false
open Go.ChangeShapes Go.WideShapes Go.ChangeAt Go.RowKit
/-- The cells xs are the elements fs, 'size' cells an element. -/
def Rows {α : Type} (R : α → List Value → Prop) (size : Nat) (fs : List α) (xs : List Value) : Prop :=
  xs.length = fs.length * size ∧ ∀ i f, fs[i]? = some f → R f ((xs.drop (i * size)).take size)
section
variable {α : Type} {R R' : α → List Value → Prop} {size : Nat} {fs gs : List α} {xs ys : List Value}
theorem Rows.nil : Rows R size [] [] := ⟨by simp, fun i f h => by simp at h⟩
theorem Rows.imp (h : Rows R size fs xs) (hi : ∀ f cs, R f cs → R' f cs) : Rows R' size fs xs := ⟨h.1, fun i f hf => hi _ _ (h.2 i f hf)⟩
theorem Rows.append (h : Rows R size fs xs) (h' : Rows R size gs ys) : Rows R size (fs ++ gs) (xs ++ ys) := by
  refine ⟨by rw [List.length_append, List.length_append, h.1, h'.1, Nat.add_mul], fun i f hf => ?_⟩
  rcases Nat.lt_or_ge i fs.length with hi | hi
  · rw [List.getElem?_append_left hi] at hf
    have h1 := h.2 i f hf
    have hle : (i + 1) * size ≤ xs.length := by rw [h.1]; exact Nat.mul_le_mul_right _ hi
    rw [Nat.add_mul, Nat.one_mul] at hle
    rw [List.drop_append_of_le_length (by omega), List.take_append_of_le_length (by rw [List.length_drop]; omega)]
    exact h1
  · rw [List.getElem?_append_right hi] at hf
    have h1 := h'.2 _ f hf
    have e : i * size = xs.length + (i - fs.length) * size := by rw [h.1, Nat.sub_mul]; have := Nat.mul_le_mul_right size hi; omega
    rw [e, List.drop_append, List.drop_of_length_le (by omega), List.nil_append, Nat.add_sub_cancel_left]
    exact h1
theorem Rows.one {f : α} {cs : List Value} (h : R f cs) (hl : cs.length = size) : Rows R size [f] cs := by
  refine ⟨by simpa using hl, fun i g hg => ?_⟩
  cases i with
  | zero => simp at hg; subst hg; simpa [List.take_of_length_le (Nat.le_of_eq hl)] using h
  | succ i => simp at hg
theorem Rows.take (h : Rows R size fs xs) (k : Nat) (hk : k ≤ fs.length) : Rows R size (fs.take k) (xs.take (k * size)) := by
  have hle := Nat.mul_le_mul_right size hk
  refine ⟨by rw [List.length_take, List.length_take, h.1, Nat.min_eq_left hle, Nat.min_eq_left hk], fun i f hf => ?_⟩
  rw [List.getElem?_take] at hf
  split at hf
  · rename_i hi
    have h1 := h.2 i f hf
    have h2 : (i + 1) * size ≤ k * size := Nat.mul_le_mul_right _ hi
    rw [Nat.add_mul, Nat.one_mul] at h2
    rw [List.drop_take, List.take_take, Nat.min_eq_left (by omega)]
    exact h1
  · cases hf
theorem Rows.drop (h : Rows R size fs xs) (k : Nat) : Rows R size (fs.drop k) (xs.drop (k * size)) := by
  refine ⟨by rw [List.length_drop, List.length_drop, h.1, Nat.sub_mul], fun i f hf => ?_⟩
  rw [List.getElem?_drop] at hf
  have h1 := h.2 _ f hf
  rw [List.drop_drop, ← Nat.add_mul]
  exact h1
theorem Rows.len (h : Rows R size fs xs) : xs.length = fs.length * size := h.1
end
section
variable {H : Type} {enc : TypeId × Value → H} {P : Program} {w : World} {spare : Nat → Bool} {held : Bool} {base : Nat}
theorem trod_field {t : TypeId} {fs : Array Field} {fuel : Nat} {cs : List Value} {x : DataW H × List MemPlace} (ht : P.underlying t = some (.struct fs)) (h : DataW.trod enc P w base spare held fuel t cs = some x) :
    cs.length = P.cellsOf t ∧ ∀ (i : Nat) (f : Field), fs[i]? = some f → ∃ n y, DataW.trod enc P w base spare held n f.type ((cs.drop f.offset).take (P.cellsOf f.type)) = some y := by
  obtain ⟨ys, n, _, _, hlen, hyl, hf⟩ := DataW.trod_struct ht h
  refine ⟨hlen, fun i f hi => ?_⟩
  have h1 := hf i f hi
  have hi' : i < ys.length := by rw [hyl]; exact (Array.getElem?_eq_some_iff.1 hi).1
  rw [List.getElem?_eq_getElem hi'] at h1
  exact ⟨n, _, h1⟩
theorem trod_len {t : TypeId} {fs : Array Field} {fuel : Nat} {cs : List Value} {x : DataW H × List MemPlace} {m : Nat} (ht : P.underlying t = some (.struct fs)) (h : DataW.trod enc P w base spare held fuel t cs = some x) (hm : P.cellsOf t = m) : cs.length = m := (trod_field ht h).1.trans hm
/-- Field i: m cells from 'off' on. -/
theorem trod_part {t : TypeId} {fs : Array Field} {fuel : Nat} {cs : List Value} {x : DataW H × List MemPlace} (ht : P.underlying t = some (.struct fs)) (h : DataW.trod enc P w base spare held fuel t cs = some x)
    (i ft off m : Nat) (hi : (fs[i]?).map (fun f => (f.type, f.offset)) = some (ft, off)) (hc : P.cellsOf ft = m) : ∃ n y, DataW.trod enc P w base spare held n ft ((cs.drop off).take m) = some y := by
  cases hf : fs[i]? with
  | none => rw [hf] at hi; simp at hi
  | some f =>
    rw [hf] at hi
    simp only [Option.map_some, Option.some.injEq, Prod.mk.injEq] at hi
    obtain ⟨h1, h2⟩ := hi
    obtain ⟨n, y, h3⟩ := (trod_field ht h).2 i f hf
    rw [h1, h2, hc] at h3
    exact ⟨n, y, h3⟩
/-- A field of one cell. -/
theorem trod_one {t : TypeId} {fs : Array Field} {fuel : Nat} {cs : List Value} {x : DataW H × List MemPlace} (ht : P.underlying t = some (.struct fs)) (h : DataW.trod enc P w base spare held fuel t cs = some x)
    (i ft off : Nat) (v : Value) (hi : (fs[i]?).map (fun f => (f.type, f.offset)) = some (ft, off)) (hc : P.cellsOf ft = 1) (hv : cs[off]? = some v) : ∃ n y, DataW.trod enc P w base spare held n ft [v] = some y := by
  obtain ⟨n, y, h1⟩ := trod_part ht h i ft off 1 hi hc
  have hl : off < cs.length := (List.getElem?_eq_some_iff.1 hv).1
  have e : (cs.drop off).take 1 = [v] := by
    rw [List.drop_eq_getElem_cons hl, List.take_succ_cons, List.take_zero]
    rw [List.getElem?_eq_getElem hl] at hv
    injection hv with hv
    rw [hv]
  rw [e] at h1
  exact ⟨n, y, h1⟩
theorem cell_int {t : TypeId} {k : IntKind} {fuel : Nat} {v : Value} {x : DataW H × List MemPlace} (ht : P.underlying t = some (.int k)) (h : DataW.trod enc P w base spare held fuel t [v] = some x) : ∃ z, v = .int k z ∧ (Lit.int k z).wf = true := by
  obtain ⟨z, e, _, hw⟩ := DataW.trod_int ht h
  injection e with e
  exact ⟨z, e, hw⟩
theorem cell_bool {t : TypeId} {fuel : Nat} {v : Value} {x : DataW H × List MemPlace} (ht : P.underlying t = some .bool) (h : DataW.trod enc P w base spare held fuel t [v] = some x) : ∃ b, v = .bool b := by
  obtain ⟨b, e, _⟩ := DataW.trod_bool ht h
  injection e with e
  exact ⟨b, e⟩
theorem cell_string {t : TypeId} {fuel : Nat} {v : Value} {x : DataW H × List MemPlace} (ht : P.underlying t = some .string) (h : DataW.trod enc P w base spare held fuel t [v] = some x) : ∃ s : ByteArray, v = .string s ∧ s.size ≤ maxLen := by
  obtain ⟨s, e, _, hw⟩ := DataW.trod_string ht h
  injection e with e
  exact ⟨s, e, hw⟩
theorem cell_slice {t e : TypeId} {fuel : Nat} {v : Value} {x : DataW H × List MemPlace} (ht : P.underlying t = some (.slice e)) (h : DataW.trod enc P w base spare held fuel t [v] = some x) : ∃ A n c, v = .slice A n c := by
  rcases Deep.open_slice ht h with ⟨h0, _⟩ | ⟨a, len, cap, m, n, D, Pl, hcs, _⟩
  · injection h0 with h0; exact ⟨_, _, _, h0⟩
  · injection hcs with h0; exact ⟨_, _, _, h0⟩
theorem cell_bytes {t e : TypeId} {fuel : Nat} {v : Value} {x : DataW H × List MemPlace} (ht : P.underlying t = some (.slice e)) (he : P.underlying e = some (.int .u8)) (hc : P.cellsOf e = 1)
    (h : DataW.trod enc P w 0 spare held fuel t [v] = some x) : ∃ A n c l, v = .slice A n c ∧ RB w w.heap.size A n c l := by
  obtain ⟨A, n, c, rfl⟩ := cell_slice ht h
  obtain ⟨l, hl⟩ := open_bytes ht he hc h
  exact ⟨A, n, c, l, rfl, hl⟩
theorem open_rows {α : Type} (R : α → List Value → Prop) {t e : TypeId} {size : Nat} (ht : P.underlying t = some (.slice e)) (hC : P.cellsOf e = size) (hs : 0 < size)
    (hR : ∀ n cs y, DataW.trod enc P w base spare held n e cs = some y → ∃ f, R f cs) {A : Option Addr} {n c fuel : Nat} {x : DataW H × List MemPlace} (h : DataW.trod enc P w base spare held fuel t [.slice A n c] = some x) :
    ∃ fs xs, fs.length = n ∧ RV w w.heap.size size A n c xs ∧ Rows R size fs xs := by
  rcases Deep.open_slice ht h with ⟨h0, _⟩ | ⟨a, len, cap, m, nn, D, Pl, hcs, hb, hl, hcap, hm, _, hi⟩
  · injection h0 with h0
    injection h0 with h1 h2 h3
    subst h1 h2 h3
    exact ⟨[], [], rfl, RV.none_, Rows.nil⟩
  · injection hcs with h0
    injection h0 with h1 h2 h3
    subst h1 h2 h3
    have hnm : n ≤ m := by rw [hm]; split <;> omega
    have build : ∀ k, k ≤ n → ∃ fs xs, fs.length = k ∧ Rows R size fs xs ∧ ∀ j u, xs[j]? = some u → w.cell? (a.add j) = some u := by
      intro k
      induction k with
      | zero => exact fun _ => ⟨[], [], rfl, Rows.nil, fun j u hj => by simp at hj⟩
      | succ k ih =>
        intro hk
        obtain ⟨fs, xs, h1, h2, h3⟩ := ih (by omega)
        obtain ⟨cs, hc, ht'⟩ := hi k (by omega)
        obtain ⟨f, hf⟩ := hR _ _ _ ht'
        rw [hC] at hc
        obtain ⟨_, hcl, hat⟩ := World.cells?_some hc
        refine ⟨fs ++ [f], xs ++ cs, by simp [h1], h2.append (Rows.one hf hcl), fun j u hj => ?_⟩
        rcases Nat.lt_or_ge j xs.length with hlt | hge
        · rw [List.getElem?_append_left hlt] at hj
          exact h3 j u hj
        · rw [List.getElem?_append_right hge] at hj
          have hj' : j - xs.length < size := by have := (List.getElem?_eq_some_iff.1 hj).1; omega
          have h4 := hat (j - xs.length) hj'
          rw [Deep.add_add, hj] at h4
          rw [← h4, h2.1, h1]
          congr 2
          rw [h2.1, h1] at hge
          omega
    obtain ⟨fs, xs, h1, h2, h3⟩ := build n (Nat.le_refl _)
    refine ⟨fs, xs, h1, ⟨by rw [h2.1, h1], hl, by simpa [maxLen] using hcap, (fun e => by cases e), fun hn => ?_⟩, h2⟩
    have hx0 : 0 < xs.length := by rw [h2.1, h1]; exact Nat.mul_pos hn hs
    have h0 := h3 0 _ (List.getElem?_eq_getElem hx0)
    obtain ⟨b, off, spot⟩ := a
    have hspot : spot = none := by simpa [Addr.add] using World.cell?_spot h0
    subst hspot
    refine ⟨b, off, rfl, ?_, fun j u hu => ?_⟩
    · have := World.block_lt_of_cell? w _ h0
      simpa [Addr.add_lit] using this
    · have := h3 j u hu
      rwa [Addr.add_lit] at this
end
end Go.Proofs.Ytnppihlalhaldaa
