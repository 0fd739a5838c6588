/-
  Slices of frames of the call's own: append.
  Conditions: none.
-/
import Derived.Test.YtmhcobhpdlpoeaaFrmMem
import Derived.Test.YtmhcobhpdlpoeaaWords
namespace Go.Proofs.Ytmhcobhpdlpoeaa
set_option linter.unusedVariables false
set_option linter.unusedSimpArgs false
open Go.ChangeShapes Go.WideShapes Go.ChangeAt Go.RowKit
theorem own_own_ne {w : World} {base base' e e' size size' n n' : Nat} {v v' : Value} {xs xs' : List Value} (h : w.ownsRow base e size v n xs) (h' : w.ownsRow base' e' size' v' n' xs') (hne : e ≠ e') : v'.ownBlock = none ∨ v'.ownBlock ≠ v.ownBlock := by
  rcases h'.2 with ⟨rfl, _⟩ | ⟨g', cap', cur', rfl, _, hh', _⟩
  · exact .inl rfl
  · right
    intro he
    rcases h.2 with ⟨rfl, _⟩ | ⟨g, cap, cur, rfl, _, hh, _⟩
    · cases he
    · have : g' = g := by simpa [Value.ownBlock] using he
      subst this
      rw [hh] at hh'
      injection hh' with hh'
      injection hh' with _ ht
      exact hne ht
theorem etf : ET Try.prog 22 29 3 40 (.agg #[.int .i64 0, .bool false, .slice none 0 0]) := ⟨Try.underlying22, info_parts (by kernel_rfl), rfl, by decide⟩
/-- The cells of a frame whose bytes are the call's own. -/
def FrO (w : World) (base : Nat) (f : Can.Fr) (cs : List Value) : Prop := ∃ A n c, cs = [.int .i64 f.id, .bool f.rem, .slice A n c] ∧ OB w base A n c f.data
theorem FrO.below {w w' : World} {base : Nat} {f : Can.Fr} {cs : List Value} (h : FrO w base f cs) (hb : Below w.heap.size w w') : FrO w' base f cs := by
  obtain ⟨A, n, c, h1, h2⟩ := h
  exact ⟨A, n, c, h1, h2.below hb⟩
theorem FrO.more {w : World} {base base' : Nat} {f : Can.Fr} {cs : List Value} (h : FrO w base f cs) (hb : base' ≤ base) : FrO w base' f cs := by
  obtain ⟨A, n, c, h1, h2⟩ := h
  exact ⟨A, n, c, h1, h2.more hb⟩
theorem FrO.frC {w : World} {base : Nat} {f : Can.Fr} {cs : List Value} (h : FrO w base f cs) : FrC w w.heap.size f cs := by
  obtain ⟨A, n, c, h1, h2⟩ := h
  exact ⟨A, n, c, h1, h2.rb⟩
/-- A slice of frames of the call's own. -/
def OFs (w : World) (base : Nat) (A : Option Addr) (n c : Nat) (l : List Can.Fr) : Prop := ∃ xs, OV w base 29 3 A n c xs ∧ Rows (FrO w base) 3 l xs
section
variable {w w' : World} {base base' n c : Nat} {A : Option Addr} {l : List Can.Fr}
theorem OFs.none_ (w : World) (base : Nat) : OFs w base none 0 0 [] := ⟨[], OV.none_ _ _ _ _, Rows.nil⟩
theorem OFs.below (h : OFs w base A n c l) (hb : Below w.heap.size w w') : OFs w' base A n c l := by
  obtain ⟨xs, h1, h2⟩ := h
  exact ⟨xs, h1.below hb, h2.imp fun _ _ hr => hr.below hb⟩
theorem OFs.more (h : OFs w base A n c l) (hb : base' ≤ base) : OFs w base' A n c l := by
  obtain ⟨xs, h1, h2⟩ := h
  exact ⟨xs, h1.more hb, h2.imp fun _ _ hr => hr.more hb⟩
theorem OFs.rf (h : OFs w base A n c l) : RF w w.heap.size A n c l := by
  obtain ⟨xs, h1, h2⟩ := h
  exact ⟨xs, h1.rv, h2.imp fun _ _ hr => hr.frC⟩
theorem OFs.len (h : OFs w base A n c l) : l.length = n := h.rf.len
theorem OFs.alloc (h : OFs w base A n c l) (o : Obj) : OFs (w.alloc o) base A n c l := h.below ((Below.refl _ _).alloc (Nat.le_refl _) o)
end
theorem frame_oneCell (f : Can.Fr) (A : Option Addr) (m c : Nat) : ∀ u ∈ ([.int .i64 f.id, .bool f.rem, .slice A m c] : List Value), u.oneCell' = true := by
  intro u hu
  simp only [List.mem_cons, List.not_mem_nil, or_false] at hu
  rcases hu with rfl | rfl | rfl <;> rfl
theorem wpList_appf {w : World} {ops : Array Oper} {rest : List Oper} {o : Oper} {a : Act} {Q : Exit → Act → World → Prop} (hgd : o.guard = none) (s x : Operand)
    (ho : o.op = .call { callee := .builtin .append, args := #[s, x], argTypes := #[22, 22] })
    {A : Option Addr} {n c : Nat} (hs : a.eval s = .slice A n c) {g : Nat} (hx : a.eval x = .slice (some ⟨g, 0, none⟩) 1 1) (hgw : g = w.heap.size)
    (base : Nat) {l : List Can.Fr} (hown : OFs w base A n c l) (f : Can.Fr) {A' : Option Addr} {m c' : Nat} (hf : OB w base A' m c' f.data)
    (hbytes : n + 1 ≤ 1000000) (hbase : base ≤ w.heap.size)
    (h : ∀ A1 c1 w1, OFs w1 base A1 (n + 1) c1 (l ++ [f]) → Below base w w1 → w.grownBy w1 (Value.slice A n c).ownBlock → wpList Try.prog ops Q rest (a.put o.dst (.slice A1 (n + 1) c1)) w1) :
    wpList Try.prog ops Q (o :: rest) a (w.alloc (.cells #[.int .i64 f.id, .bool f.rem, .slice A' m c'] 29)) := by
  subst hgw
  obtain ⟨xs, h1, h2⟩ := hown
  have hnew := (OV.new (base := base) (e := 29) (size := 3) w [.int .i64 f.id, .bool f.rem, .slice A' m c'] 1 rfl (by omega) hbase).rv
  refine wpList_app etf hgd s x ho hs hx base (h1.alloc _) hnew (frame_oneCell f A' m c') (by omega) (by omega) (by simp; omega) fun A1 c1 w1 k1 k2 _ => ?_
  have hg : w.grownBy w1 (Value.slice A n c).ownBlock := World.grownBy.trans (World.grownBy_alloc w _ _) k2
  have hkeep : ∀ {A2 : Option Addr} {n2 c2 : Nat} {l2 : List UInt8}, OB w base A2 n2 c2 l2 → OB w1 base A2 n2 c2 l2 := fun h => h.kept hg (own_own_ne h1 h (by decide))
  refine h A1 c1 w1 ⟨_, k1, Rows.append (h2.imp fun g cs ⟨A2, n2, c2, e, hr⟩ => ⟨A2, n2, c2, e, hkeep hr⟩) (Rows.one ⟨A', m, c', rfl, hkeep hf⟩ rfl)⟩ (grown_below hg h1.lt hbase) hg
end Go.Proofs.Ytmhcobhpdlpoeaa
