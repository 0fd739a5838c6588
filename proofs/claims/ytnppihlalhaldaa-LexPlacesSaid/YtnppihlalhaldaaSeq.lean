/-
  Slices of any structs: read, of the call's own; append.
  Conditions: none.
-/
import Derived.Test.YtnppihlalhaldaaOpen
import Derived.Test.YtnppihlalhaldaaBlk
namespace Go.Proofs.Ytnppihlalhaldaa
set_option linter.unusedVariables false
set_option linter.unusedSimpArgs false
open Go.RowKit
theorem own_own_ne {w : World} {base base' e e' size size' n n' : Nat} {v v' : Value} {xs xs' : List Value} (h : w.ownsRow base e size v n xs) (h' : w.ownsRow base' e' size' v' n' xs') (hne : e ≠ e') : v'.ownBlock = none ∨ v'.ownBlock ≠ v.ownBlock := by
  rcases h'.2 with ⟨rfl, _⟩ | ⟨g', cap', cur', rfl, _, hh', _⟩
  · exact .inl rfl
  · right
    intro he
    rcases h.2 with ⟨rfl, _⟩ | ⟨g, cap, cur, rfl, _, hh, _⟩
    · cases he
    · have : g' = g := by simpa [Value.ownBlock] using he
      subst this
      rw [hh] at hh'
      injection hh' with hh'
      injection hh' with _ ht
      exact hne ht
section
variable {α : Type} {R R' : α → List Value → Prop} {w w' : World} {B B' size n c : Nat} {A : Option Addr} {fs : List α}
/-- A slice that is read, its elements by R. -/
def RS (R : α → List Value → Prop) (w : World) (B size : Nat) (A : Option Addr) (n c : Nat) (fs : List α) : Prop := ∃ xs, RV w B size A n c xs ∧ Rows R size fs xs
/-- A slice of the call's own. -/
def OS (R : α → List Value → Prop) (w : World) (base e size : Nat) (A : Option Addr) (n c : Nat) (fs : List α) : Prop := ∃ xs, OV w base e size A n c xs ∧ Rows R size fs xs
theorem RS.len (h : RS R w B size A n c fs) (hs : 0 < size) : fs.length = n := by
  obtain ⟨xs, h1, h2⟩ := h
  have e := h1.len
  rw [h2.len] at e
  exact Nat.eq_of_mul_eq_mul_right hs e
theorem RS.lt (h : RS R w B size A n c fs) : n ≤ 9223372036854775807 := by
  obtain ⟨xs, h1, h2⟩ := h
  exact Nat.le_trans h1.le h1.cap
theorem RS.keep (h : RS R w B size A n c fs) (hk : ∀ p : Addr, p.block < B → w'.cell? p = w.cell? p) (hi : ∀ f cs, R f cs → R' f cs) : RS R' w' B size A n c fs := by
  obtain ⟨xs, h1, h2⟩ := h
  exact ⟨xs, h1.keep hk, h2.imp hi⟩
theorem RS.below (h : RS R w B size A n c fs) (hb : Below B w w') (hi : ∀ f cs, R f cs → R' f cs) : RS R' w' B size A n c fs := h.keep (fun _ hp => hb.cell hp) hi
theorem RS.more (h : RS R w B size A n c fs) (hB : B ≤ B') (hi : ∀ f cs, R f cs → R' f cs) : RS R' w B' size A n c fs := by
  obtain ⟨xs, h1, h2⟩ := h
  exact ⟨xs, h1.more hB, h2.imp hi⟩
theorem RS.imp (h : RS R w B size A n c fs) (hi : ∀ f cs, R f cs → R' f cs) : RS R' w B size A n c fs := by
  obtain ⟨xs, h1, h2⟩ := h
  exact ⟨xs, h1, h2.imp hi⟩
theorem RS.at_ (h : RS R w B size A n c fs) (hs : 0 < size) {i : Nat} {f : α} (hf : fs[i]? = some f) : ∃ b o cs, A = some ⟨b, o, none⟩ ∧ b < B ∧ R f cs ∧ ∀ j u, j < size → cs[j]? = some u → w.cell? ⟨b, o + i * size + j, none⟩ = some u := by
  have hl := h.len hs
  have hi : i < n := by rw [← hl]; exact (List.getElem?_eq_some_iff.1 hf).1
  obtain ⟨xs, h1, h2⟩ := h
  obtain ⟨b, o, rfl, hb, hc⟩ := h1.at_ (by omega)
  refine ⟨b, o, _, rfl, hb, h2.2 i f hf, fun j u hj hu => ?_⟩
  rw [List.getElem?_take, if_pos hj, List.getElem?_drop] at hu
  rw [Nat.add_assoc]
  exact hc _ u hu
theorem RS.none_ : RS R w B size none 0 0 [] := ⟨[], RV.none_, Rows.nil⟩
theorem OS.none_ (w : World) (base e size : Nat) : OS R w base e size none 0 0 [] := ⟨[], OV.none_ _ _ _ _, Rows.nil⟩
theorem OS.rs {base e : Nat} (h : OS R w base e size A n c fs) : RS R w w.heap.size size A n c fs := by
  obtain ⟨xs, h1, h2⟩ := h
  exact ⟨xs, h1.rv, h2⟩
theorem OS.below {base e : Nat} (h : OS R w base e size A n c fs) (hb : Below w.heap.size w w') (hi : ∀ f cs, R f cs → R' f cs) : OS R' w' base e size A n c fs := by
  obtain ⟨xs, h1, h2⟩ := h
  exact ⟨xs, h1.below hb, h2.imp hi⟩
theorem OS.more {base base' e : Nat} (h : OS R w base e size A n c fs) (hb : base' ≤ base) (hi : ∀ f cs, R f cs → R' f cs) : OS R' w base' e size A n c fs := by
  obtain ⟨xs, h1, h2⟩ := h
  exact ⟨xs, h1.more hb, h2.imp hi⟩
theorem OS.kept {base e : Nat} {row : Option Nat} (h : OS R w base e size A n c fs) (hg : w.grownBy w' row) (hne : (Value.slice A n c).ownBlock = none ∨ (Value.slice A n c).ownBlock ≠ row) (hi : ∀ f cs, R f cs → R' f cs) : OS R' w' base e size A n c fs := by
  obtain ⟨xs, h1, h2⟩ := h
  exact ⟨xs, h1.kept hg hne, h2.imp hi⟩
theorem OS.imp {base e : Nat} (h : OS R w base e size A n c fs) (hi : ∀ f cs, R f cs → R' f cs) : OS R' w base e size A n c fs := by
  obtain ⟨xs, h1, h2⟩ := h
  exact ⟨xs, h1, h2.imp hi⟩
theorem OS.len {base e : Nat} (h : OS R w base e size A n c fs) (hs : 0 < size) : fs.length = n := h.rs.len hs
end
section
variable {α : Type} {P : Program} {T E size bytes : Nat} {z : Value}
/-- 'append(x, f)', f laid in a block of its own. -/
theorem wpList_apps (ht : ET P T E size bytes z) (R : World → α → List Value → Prop) {w : World} {ops : Array Oper} {rest : List Oper} {o : Oper} {a : Act} {Q : Exit → Act → World → Prop} (hgd : o.guard = none) (s x : Operand)
    (ho : o.op = .call { callee := .builtin .append, args := #[s, x], argTypes := #[T, T] })
    {A : Option Addr} {n c : Nat} (hs : a.eval s = .slice A n c) {g : Nat} (hx : a.eval x = .slice (some ⟨g, 0, none⟩) 1 1) (hgw : g = w.heap.size)
    (base : Nat) {l : List α} (hown : OS (R w) w base E size A n c l) (f : α) {cs : List Value} (hf : R w f cs) (hl : cs.length = size) (h1 : ∀ u ∈ cs, u.oneCell' = true)
    (hbytes : (n + 1) * bytes ≤ 140737488355328) (h63 : n + 1 ≤ 9223372036854775807) (hbase : base ≤ w.heap.size)
    (hR : ∀ w1 A1 n1 c1 xs, OV w base E size A1 n1 c1 xs → w.grownBy w1 (Value.slice A1 n1 c1).ownBlock → ∀ f cs, R w f cs → R w1 f cs)
    (h : ∀ A1 c1 w1, OS (R w1) w1 base E size A1 (n + 1) c1 (l ++ [f]) → Below base w w1 → w.grownBy w1 (Value.slice A n c).ownBlock →
      ((Value.slice A1 (n + 1) c1).ownBlock = (Value.slice A n c).ownBlock ∨ (Value.slice A1 (n + 1) c1).ownBlock = some (w.heap.size + 1)) → wpList P ops Q rest (a.put o.dst (.slice A1 (n + 1) c1)) w1) :
    wpList P ops Q (o :: rest) a (w.alloc (.cells cs.toArray E)) := by
  subst hgw
  obtain ⟨xs, k1, k2⟩ := hown
  have hnew := (OV.new (base := base) (e := E) (size := size) w cs 1 (by omega) (by omega) hbase).rv
  refine wpList_app ht hgd s x ho hs hx base (k1.alloc _) hnew h1 hbytes h63 (by simp; omega) fun A1 c1 w1 j1 j2 j3 => ?_
  have hg : w.grownBy w1 (Value.slice A n c).ownBlock := World.grownBy.trans (World.grownBy_alloc w _ _) j2
  have hi := hR w1 A n c xs k1 hg
  exact h A1 c1 w1 ⟨_, j1, Rows.append (k2.imp hi) (Rows.one (hi _ _ hf) hl)⟩ (grown_below hg k1.lt hbase) hg (by simpa using j3)
/-- The same, wherever the new cells lie. -/
theorem wpList_apps2 (ht : ET P T E size bytes z) (R : World → α → List Value → Prop) {w : World} {ops : Array Oper} {rest : List Oper} {o : Oper} {a : Act} {Q : Exit → Act → World → Prop} (hgd : o.guard = none) (s x : Operand)
    (ho : o.op = .call { callee := .builtin .append, args := #[s, x], argTypes := #[T, T] })
    {A : Option Addr} {n c : Nat} (hs : a.eval s = .slice A n c) {A' : Option Addr} {c' : Nat} (hx : a.eval x = .slice A' 1 c')
    (base : Nat) {l : List α} (hown : OS (R w) w base E size A n c l) (f : α) {cs : List Value} {B : Nat} (hr : RV w B size A' 1 c' cs) (hf : R w f cs) (h1 : ∀ u ∈ cs, u.oneCell' = true)
    (hbytes : (n + 1) * bytes ≤ 140737488355328) (h63 : n + 1 ≤ 9223372036854775807) (hbase : base ≤ w.heap.size)
    (hR : ∀ w1 A1 n1 c1 xs, OV w base E size A1 n1 c1 xs → w.grownBy w1 (Value.slice A1 n1 c1).ownBlock → ∀ f cs, R w f cs → R w1 f cs)
    (h : ∀ A1 c1 w1, OS (R w1) w1 base E size A1 (n + 1) c1 (l ++ [f]) → Below base w w1 → w.grownBy w1 (Value.slice A n c).ownBlock →
      ((Value.slice A1 (n + 1) c1).ownBlock = (Value.slice A n c).ownBlock ∨ (Value.slice A1 (n + 1) c1).ownBlock = some w.heap.size) → wpList P ops Q rest (a.put o.dst (.slice A1 (n + 1) c1)) w1) :
    wpList P ops Q (o :: rest) a w := by
  obtain ⟨xs, k1, k2⟩ := hown
  refine wpList_app ht hgd s x ho hs hx base k1 hr h1 hbytes h63 hbase fun A1 c1 w1 j1 j2 j3 => ?_
  have hi := hR w1 A n c xs k1 j2
  exact h A1 c1 w1 ⟨_, j1, Rows.append (k2.imp hi) (Rows.one (hi _ _ hf) (by have := hr.len; omega))⟩ (grown_below j2 k1.lt hbase) j2 j3
theorem RV.new (w : World) (e : TypeId) {cs : List Value} (hl : cs.length = size) : RV (w.alloc (.cells cs.toArray e)) (w.heap.size + 1) size (some ⟨w.heap.size, 0, none⟩) 1 1 cs := by
  refine (OV.new (base := 0) (e := e) (size := size) w cs 1 (by omega) (by omega) (Nat.zero_le _)).rv.more (by simp)
theorem RV.lit (w : World) (e m : Nat) {cs : List Value} (hl : cs.length = m * size) (hm : m ≤ 9223372036854775807) : RV (w.alloc (.cells cs.toArray e)) (w.heap.size + 1) size (some ⟨w.heap.size, 0, none⟩) m m cs := by
  refine (OV.new (base := 0) (e := e) (size := size) w cs m (by omega) hm (Nat.zero_le _)).rv.more (by simp)
end
end Go.Proofs.Ytnppihlalhaldaa
