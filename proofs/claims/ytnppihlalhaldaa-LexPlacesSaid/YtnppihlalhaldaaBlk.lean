/-
  A block that is known whole.
  Conditions: none.
-/
import Derived.Test.YtnppihlalhaldaaPhase
import Derived.Laws.OwnMore
import Derived.Laws.Rows
namespace Go.Proofs.Ytnppihlalhaldaa
set_option linter.unusedVariables false
set_option linter.unusedSimpArgs false
open Go.RowKit
def Blk (w : World) (g : Nat) (t : TypeId) (cs : Array Value) : Prop := w.heap[g]? = some (.cells cs t (0, 0))
section
variable {w w' : World} {g : Nat} {t : TypeId} {cs : Array Value}
theorem Blk.lt (h : Blk w g t cs) : g < w.heap.size := by
  rcases Nat.lt_or_ge g w.heap.size with hlt | hge
  · exact hlt
  · unfold Blk at h; rw [Array.getElem?_eq_none hge] at h; cases h
theorem Blk.cell (h : Blk w g t cs) (i : Nat) : w.cell? ⟨g, i, none⟩ = cs[i]? := cell_of_row w g i cs t (0, 0) h
theorem Blk.frozen (h : Blk w g t cs) (i : Nat) : w.frozen? ⟨g, i, none⟩ = false := by
  unfold Blk at h
  simp [World.frozen?, h]
theorem Blk.new (w : World) (t : TypeId) (cs : Array Value) : Blk (w.alloc (.cells cs t)) w.heap.size t cs := heap_alloc_new w _
theorem Blk.drew (h : Blk w g t cs) : Blk w.drew g t cs := h
theorem Blk.drewN (h : Blk w g t cs) (n : Nat) : Blk (w.drewN n) g t cs := h
theorem Blk.alloc (h : Blk w g t cs) (o : Obj) : Blk (w.alloc o) g t cs := (Below.heap_alloc w o g h.lt).trans h
theorem Blk.set_ (h : Blk w g t cs) (i : Nat) (u : Value) : Blk (w.setCell ⟨g, i, none⟩ u) g t (cs.setIfInBounds i u) := by
  unfold Blk at h ⊢
  simp [World.setCell, Array.getElem?_modify, h]
theorem Blk.far (h : Blk w g t cs) {p : Addr} (hp : g ≠ p.block) (u : Value) : Blk (w.setCell p u) g t cs := (Below.heap_setCell w p u g hp).trans h
theorem Blk.below {B : Nat} (h : Blk w g t cs) (hb : Below B w w') (hg : g < B) : Blk w' g t cs := (hb.block g hg).trans h
theorem Blk.later (h : Blk w g t cs) (hb : Below w.heap.size w w') : Blk w' g t cs := h.below hb h.lt
theorem Blk.grown {row : Option Nat} (h : Blk w g t cs) (hb : w.grownBy w' row) (hg : some g ≠ row) : Blk w' g t cs := (hb.block g h.lt hg).trans h
theorem Blk.ne_ {g' : Nat} {t' : TypeId} {cs' : Array Value} (h : Blk w g t cs) (h' : Blk w g' t' cs') (hne : t ≠ t') : g ≠ g' := by
  rintro rfl
  unfold Blk at h h'
  rw [h] at h'
  injection h' with h'
  injection h' with _ ht
  exact hne ht
theorem own_blk_ne {base : Nat} {e : TypeId} {size n : Nat} {v : Value} {xs : List Value} (h : w.ownsRow base e size v n xs) (hg : Blk w g t cs) (hne : e ≠ t) : v.ownBlock ≠ some g := by
  rcases h.2 with ⟨rfl, _⟩ | ⟨g', cap, cur, rfl, _, hh, _⟩
  · simp [Value.ownBlock]
  · intro he
    have : g' = g := by simpa [Value.ownBlock] using he
    subst this
    exact Blk.ne_ (t := e) hh hg hne rfl
theorem Blk.made {w1 : World} (hb : Below (w.alloc (.cells cs t)).heap.size (w.alloc (.cells cs t)) w1) : Blk w1 w.heap.size t cs := (Blk.new w t cs).later hb
theorem Blk.one {a : Value} (h : Blk w g t #[a]) : w.cell? ⟨g, 0, none⟩ = some a ∧ w.frozen? ⟨g, 0, none⟩ = false := ⟨h.cell 0, h.frozen 0⟩
theorem Blk.two {a b : Value} (h : Blk w g t #[a, b]) : w.cell? ⟨g, 0, none⟩ = some a ∧ w.cell? ⟨g, 1, none⟩ = some b ∧ (w.frozen? ⟨g, 0, none⟩ = false ∧ w.frozen? ⟨g, 1, none⟩ = false) := ⟨h.cell 0, h.cell 1, h.frozen 0, h.frozen 1⟩
theorem Blk.three {a b c : Value} (h : Blk w g t #[a, b, c]) : w.cell? ⟨g, 0, none⟩ = some a ∧ w.cell? ⟨g, 1, none⟩ = some b ∧ w.cell? ⟨g, 2, none⟩ = some c ∧ (w.frozen? ⟨g, 0, none⟩ = false ∧ w.frozen? ⟨g, 1, none⟩ = false ∧ w.frozen? ⟨g, 2, none⟩ = false) := ⟨h.cell 0, h.cell 1, h.cell 2, h.frozen 0, h.frozen 1, h.frozen 2⟩
/-- As regions that draw their order ask for them. -/
theorem Blk.three3 {a b c : Value} (h : Blk w g t #[a, b, c]) : ∀ (d : Nat) (os : Array Obj), (Sort.grow (redrawn w d) os).cell? ⟨g, 0, none⟩ = some a ∧ (Sort.grow (redrawn w d) os).cell? ⟨g, 1, none⟩ = some b ∧ (Sort.grow (redrawn w d) os).cell? ⟨g, 2, none⟩ = some c := fun d os => by
  have k := h.later (below_regrown w d os)
  exact ⟨k.cell 0, k.cell 1, k.cell 2⟩
theorem Blk.four {a b c d : Value} (h : Blk w g t #[a, b, c, d]) : (w.cell? ⟨g, 0, none⟩ = some a ∧ w.cell? ⟨g, 1, none⟩ = some b ∧ w.cell? ⟨g, 2, none⟩ = some c ∧ w.cell? ⟨g, 3, none⟩ = some d) ∧ (w.frozen? ⟨g, 0, none⟩ = false ∧ w.frozen? ⟨g, 1, none⟩ = false ∧ w.frozen? ⟨g, 2, none⟩ = false ∧ w.frozen? ⟨g, 3, none⟩ = false) := ⟨⟨h.cell 0, h.cell 1, h.cell 2, h.cell 3⟩, h.frozen 0, h.frozen 1, h.frozen 2, h.frozen 3⟩
theorem Blk.four4 {a b c d : Value} (h : Blk w g t #[a, b, c, d]) : ∀ (k : Nat) (os : Array Obj), (Sort.grow (redrawn w k) os).cell? ⟨g, 0, none⟩ = some a ∧ (Sort.grow (redrawn w k) os).cell? ⟨g, 1, none⟩ = some b ∧ (Sort.grow (redrawn w k) os).cell? ⟨g, 2, none⟩ = some c ∧ (Sort.grow (redrawn w k) os).cell? ⟨g, 3, none⟩ = some d := fun k os => by
  have h := h.later (below_regrown w k os)
  exact ⟨h.cell 0, h.cell 1, h.cell 2, h.cell 3⟩
theorem Blk.store3 {a b c : Value} (h : Blk w g t #[a, b, c]) (a' b' c' : Value) : Blk (((w.setCell ⟨g, 0, none⟩ a').setCell ⟨g, 1, none⟩ b').setCell ⟨g, 2, none⟩ c') g t #[a', b', c'] := ((h.set_ 0 a').set_ 1 b').set_ 2 c'
theorem Blk.store4 {a b c d : Value} (h : Blk w g t #[a, b, c, d]) (a' b' c' d' : Value) : Blk ((((w.setCell ⟨g, 0, none⟩ a').setCell ⟨g, 1, none⟩ b').setCell ⟨g, 2, none⟩ c').setCell ⟨g, 3, none⟩ d') g t #[a', b', c', d'] := (((h.set_ 0 a').set_ 1 b').set_ 2 c').set_ 3 d'
theorem below_set3 {B : Nat} (h : Below B w w') (hg : B ≤ g) (i j k : Nat) (a b c : Value) : Below B w (((w'.setCell ⟨g, i, none⟩ a).setCell ⟨g, j, none⟩ b).setCell ⟨g, k, none⟩ c) := ((h.setCell (p := ⟨g, i, none⟩) hg a).setCell (p := ⟨g, j, none⟩) hg b).setCell (p := ⟨g, k, none⟩) hg c
theorem Blk.keep {B : Nat} (h : Blk w g t cs) (hb : Below B w w') (hg : B ≤ g) : B ≤ g ∧ Below B w w' := ⟨hg, hb⟩
theorem OB.far {base : Nat} {A : Option Addr} {n c : Nat} {l : List UInt8} (h : OB w base A n c l) (hg : g < base) (i : Nat) (u : Value) : OB (w.setCell ⟨g, i, none⟩ u) base A n c l := by
  refine h.kept (row := some g) (grown_setCell (World.grownBy.refl _ _) (.inl rfl) u) ?_
  cases e : (Value.slice A n c).ownBlock with
  | none => exact .inl rfl
  | some k =>
    right
    intro he
    have := (h.lt k e).1
    injection he with he
    omega
theorem OV.far {base e size : Nat} {A : Option Addr} {n c : Nat} {l : List Value} (h : OV w base e size A n c l) (hg : g < base) (i : Nat) (u : Value) : OV (w.setCell ⟨g, i, none⟩ u) base e size A n c l := by
  refine h.kept (row := some g) (grown_setCell (World.grownBy.refl _ _) (.inl rfl) u) ?_
  cases e : (Value.slice A n c).ownBlock with
  | none => exact .inl rfl
  | some k =>
    right
    intro he
    have := (h.lt k e).1
    injection he with he
    omega
theorem RB.far {B : Nat} {A : Option Addr} {n c : Nat} {l : List UInt8} (h : RB w B A n c l) (hg : B ≤ g) (i : Nat) (u : Value) : RB (w.setCell ⟨g, i, none⟩ u) B A n c l :=
  h.keep fun q hq => World.cell?_setCell_other w ⟨g, i, none⟩ q u (fun e => by subst e; exact absurd hq (by show ¬ g < B; omega))
theorem OB.far3 {base : Nat} {A : Option Addr} {n c : Nat} {l : List UInt8} (h : OB w base A n c l) (hg : g < base) (i j k : Nat) (a b d : Value) : OB (((w.setCell ⟨g, i, none⟩ a).setCell ⟨g, j, none⟩ b).setCell ⟨g, k, none⟩ d) base A n c l := ((h.far hg i a).far hg j b).far hg k d
end
end Go.Proofs.Ytnppihlalhaldaa
