/-
  Texts joined: Open, Seq, Spoil, EntMem.
  Conditions: none.
-/
import Derived.Test.YtbmocffnnlfnjaaGreatJ01
import Derived.Test.YtbmocffnnlfnjaaGreatJ04
import Derived.Deep.Slices
import Derived.ArgAppend
/-
  Arguments as cells: structs of any fields, slices of any elements.
  Conditions: none.
-/
namespace Go.Proofs.YtbmocffnnlfnjaaGreat
set_option linter.unusedVariables false
set_option linter.unusedSimpArgs false
open Go.ChangeShapes Go.WideShapes Go.ChangeAt Go.RowKit
/-- The cells xs are the elements fs, 'size' cells an element. -/
def Rows {α : Type} (R : α → List Value → Prop) (size : Nat) (fs : List α) (xs : List Value) : Prop :=
  xs.length = fs.length * size ∧ ∀ i f, fs[i]? = some f → R f ((xs.drop (i * size)).take size)
section
variable {α : Type} {R R' : α → List Value → Prop} {size : Nat} {fs gs : List α} {xs ys : List Value}
theorem Rows.nil : Rows R size [] [] := ⟨by simp, fun i f h => by simp at h⟩
theorem Rows.imp (h : Rows R size fs xs) (hi : ∀ f cs, R f cs → R' f cs) : Rows R' size fs xs := ⟨h.1, fun i f hf => hi _ _ (h.2 i f hf)⟩
theorem Rows.append (h : Rows R size fs xs) (h' : Rows R size gs ys) : Rows R size (fs ++ gs) (xs ++ ys) := by
  refine ⟨by rw [List.length_append, List.length_append, h.1, h'.1, Nat.add_mul], fun i f hf => ?_⟩
  rcases Nat.lt_or_ge i fs.length with hi | hi
  · rw [List.getElem?_append_left hi] at hf
    have h1 := h.2 i f hf
    have hle : (i + 1) * size ≤ xs.length := by rw [h.1]; exact Nat.mul_le_mul_right _ hi
    rw [Nat.add_mul, Nat.one_mul] at hle
    rw [List.drop_append_of_le_length (by omega), List.take_append_of_le_length (by rw [List.length_drop]; omega)]
    exact h1
  · rw [List.getElem?_append_right hi] at hf
    have h1 := h'.2 _ f hf
    have e : i * size = xs.length + (i - fs.length) * size := by rw [h.1, Nat.sub_mul]; have := Nat.mul_le_mul_right size hi; omega
    rw [e, List.drop_append, List.drop_of_length_le (by omega), List.nil_append, Nat.add_sub_cancel_left]
    exact h1
theorem Rows.one {f : α} {cs : List Value} (h : R f cs) (hl : cs.length = size) : Rows R size [f] cs := by
  refine ⟨by simpa using hl, fun i g hg => ?_⟩
  cases i with
  | zero => simp at hg; subst hg; simpa [List.take_of_length_le (Nat.le_of_eq hl)] using h
  | succ i => simp at hg
theorem Rows.take (h : Rows R size fs xs) (k : Nat) (hk : k ≤ fs.length) : Rows R size (fs.take k) (xs.take (k * size)) := by
  have hle := Nat.mul_le_mul_right size hk
  refine ⟨by rw [List.length_take, List.length_take, h.1, Nat.min_eq_left hle, Nat.min_eq_left hk], fun i f hf => ?_⟩
  rw [List.getElem?_take] at hf
  split at hf
  · rename_i hi
    have h1 := h.2 i f hf
    have h2 : (i + 1) * size ≤ k * size := Nat.mul_le_mul_right _ hi
    rw [Nat.add_mul, Nat.one_mul] at h2
    rw [List.drop_take, List.take_take, Nat.min_eq_left (by omega)]
    exact h1
  · cases hf
theorem Rows.drop (h : Rows R size fs xs) (k : Nat) : Rows R size (fs.drop k) (xs.drop (k * size)) := by
  refine ⟨by rw [List.length_drop, List.length_drop, h.1, Nat.sub_mul], fun i f hf => ?_⟩
  rw [List.getElem?_drop] at hf
  have h1 := h.2 _ f hf
  rw [List.drop_drop, ← Nat.add_mul]
  exact h1
theorem Rows.len (h : Rows R size fs xs) : xs.length = fs.length * size := h.1
end
section
variable {H : Type} {enc : TypeId × Value → H} {P : Program} {w : World} {spare : Nat → Bool} {held : Bool} {base : Nat}
theorem trod_field {t : TypeId} {fs : Array Field} {fuel : Nat} {cs : List Value} {x : DataW H × List MemPlace} (ht : P.underlying t = some (.struct fs)) (h : DataW.trod enc P w base spare held fuel t cs = some x) :
    cs.length = P.cellsOf t ∧ ∀ (i : Nat) (f : Field), fs[i]? = some f → ∃ n y, DataW.trod enc P w base spare held n f.type ((cs.drop f.offset).take (P.cellsOf f.type)) = some y := by
  obtain ⟨ys, n, _, _, hlen, hyl, hf⟩ := DataW.trod_struct ht h
  refine ⟨hlen, fun i f hi => ?_⟩
  have h1 := hf i f hi
  have hi' : i < ys.length := by rw [hyl]; exact (Array.getElem?_eq_some_iff.1 hi).1
  rw [List.getElem?_eq_getElem hi'] at h1
  exact ⟨n, _, h1⟩
theorem trod_len {t : TypeId} {fs : Array Field} {fuel : Nat} {cs : List Value} {x : DataW H × List MemPlace} {m : Nat} (ht : P.underlying t = some (.struct fs)) (h : DataW.trod enc P w base spare held fuel t cs = some x) (hm : P.cellsOf t = m) : cs.length = m := (trod_field ht h).1.trans hm
/-- Field i: m cells from 'off' on. -/
theorem trod_part {t : TypeId} {fs : Array Field} {fuel : Nat} {cs : List Value} {x : DataW H × List MemPlace} (ht : P.underlying t = some (.struct fs)) (h : DataW.trod enc P w base spare held fuel t cs = some x)
    (i ft off m : Nat) (hi : (fs[i]?).map (fun f => (f.type, f.offset)) = some (ft, off)) (hc : P.cellsOf ft = m) : ∃ n y, DataW.trod enc P w base spare held n ft ((cs.drop off).take m) = some y := by
  cases hf : fs[i]? with
  | none => rw [hf] at hi; simp at hi
  | some f =>
    rw [hf] at hi
    simp only [Option.map_some, Option.some.injEq, Prod.mk.injEq] at hi
    obtain ⟨h1, h2⟩ := hi
    obtain ⟨n, y, h3⟩ := (trod_field ht h).2 i f hf
    rw [h1, h2, hc] at h3
    exact ⟨n, y, h3⟩
/-- A field of one cell. -/
theorem trod_one {t : TypeId} {fs : Array Field} {fuel : Nat} {cs : List Value} {x : DataW H × List MemPlace} (ht : P.underlying t = some (.struct fs)) (h : DataW.trod enc P w base spare held fuel t cs = some x)
    (i ft off : Nat) (v : Value) (hi : (fs[i]?).map (fun f => (f.type, f.offset)) = some (ft, off)) (hc : P.cellsOf ft = 1) (hv : cs[off]? = some v) : ∃ n y, DataW.trod enc P w base spare held n ft [v] = some y := by
  obtain ⟨n, y, h1⟩ := trod_part ht h i ft off 1 hi hc
  have hl : off < cs.length := (List.getElem?_eq_some_iff.1 hv).1
  have e : (cs.drop off).take 1 = [v] := by
    rw [List.drop_eq_getElem_cons hl, List.take_succ_cons, List.take_zero]
    rw [List.getElem?_eq_getElem hl] at hv
    injection hv with hv
    rw [hv]
  rw [e] at h1
  exact ⟨n, y, h1⟩
theorem cell_int {t : TypeId} {k : IntKind} {fuel : Nat} {v : Value} {x : DataW H × List MemPlace} (ht : P.underlying t = some (.int k)) (h : DataW.trod enc P w base spare held fuel t [v] = some x) : ∃ z, v = .int k z ∧ (Lit.int k z).wf = true := by
  obtain ⟨z, e, _, hw⟩ := DataW.trod_int ht h
  injection e with e
  exact ⟨z, e, hw⟩
theorem cell_bool {t : TypeId} {fuel : Nat} {v : Value} {x : DataW H × List MemPlace} (ht : P.underlying t = some .bool) (h : DataW.trod enc P w base spare held fuel t [v] = some x) : ∃ b, v = .bool b := by
  obtain ⟨b, e, _⟩ := DataW.trod_bool ht h
  injection e with e
  exact ⟨b, e⟩
theorem cell_string {t : TypeId} {fuel : Nat} {v : Value} {x : DataW H × List MemPlace} (ht : P.underlying t = some .string) (h : DataW.trod enc P w base spare held fuel t [v] = some x) : ∃ s : ByteArray, v = .string s ∧ s.size ≤ maxLen := by
  obtain ⟨s, e, _, hw⟩ := DataW.trod_string ht h
  injection e with e
  exact ⟨s, e, hw⟩
theorem cell_slice {t e : TypeId} {fuel : Nat} {v : Value} {x : DataW H × List MemPlace} (ht : P.underlying t = some (.slice e)) (h : DataW.trod enc P w base spare held fuel t [v] = some x) : ∃ A n c, v = .slice A n c := by
  rcases Deep.open_slice ht h with ⟨h0, _⟩ | ⟨a, len, cap, m, n, D, Pl, hcs, _⟩
  · injection h0 with h0; exact ⟨_, _, _, h0⟩
  · injection hcs with h0; exact ⟨_, _, _, h0⟩
theorem cell_bytes {t e : TypeId} {fuel : Nat} {v : Value} {x : DataW H × List MemPlace} (ht : P.underlying t = some (.slice e)) (he : P.underlying e = some (.int .u8)) (hc : P.cellsOf e = 1)
    (h : DataW.trod enc P w 0 spare held fuel t [v] = some x) : ∃ A n c l, v = .slice A n c ∧ RB w w.heap.size A n c l := by
  obtain ⟨A, n, c, rfl⟩ := cell_slice ht h
  obtain ⟨l, hl⟩ := open_bytes ht he hc h
  exact ⟨A, n, c, l, rfl, hl⟩
theorem open_rows {α : Type} (R : α → List Value → Prop) {t e : TypeId} {size : Nat} (ht : P.underlying t = some (.slice e)) (hC : P.cellsOf e = size) (hs : 0 < size)
    (hR : ∀ n cs y, DataW.trod enc P w base spare held n e cs = some y → ∃ f, R f cs) {A : Option Addr} {n c fuel : Nat} {x : DataW H × List MemPlace} (h : DataW.trod enc P w base spare held fuel t [.slice A n c] = some x) :
    ∃ fs xs, fs.length = n ∧ RV w w.heap.size size A n c xs ∧ Rows R size fs xs := by
  rcases Deep.open_slice ht h with ⟨h0, _⟩ | ⟨a, len, cap, m, nn, D, Pl, hcs, hb, hl, hcap, hm, _, hi⟩
  · injection h0 with h0
    injection h0 with h1 h2 h3
    subst h1 h2 h3
    exact ⟨[], [], rfl, RV.none_, Rows.nil⟩
  · injection hcs with h0
    injection h0 with h1 h2 h3
    subst h1 h2 h3
    have hnm : n ≤ m := by rw [hm]; split <;> omega
    have build : ∀ k, k ≤ n → ∃ fs xs, fs.length = k ∧ Rows R size fs xs ∧ ∀ j u, xs[j]? = some u → w.cell? (a.add j) = some u := by
      intro k
      induction k with
      | zero => exact fun _ => ⟨[], [], rfl, Rows.nil, fun j u hj => by simp at hj⟩
      | succ k ih =>
        intro hk
        obtain ⟨fs, xs, h1, h2, h3⟩ := ih (by omega)
        obtain ⟨cs, hc, ht'⟩ := hi k (by omega)
        obtain ⟨f, hf⟩ := hR _ _ _ ht'
        rw [hC] at hc
        obtain ⟨_, hcl, hat⟩ := World.cells?_some hc
        refine ⟨fs ++ [f], xs ++ cs, by simp [h1], h2.append (Rows.one hf hcl), fun j u hj => ?_⟩
        rcases Nat.lt_or_ge j xs.length with hlt | hge
        · rw [List.getElem?_append_left hlt] at hj
          exact h3 j u hj
        · rw [List.getElem?_append_right hge] at hj
          have hj' : j - xs.length < size := by have := (List.getElem?_eq_some_iff.1 hj).1; omega
          have h4 := hat (j - xs.length) hj'
          rw [Deep.add_add, hj] at h4
          rw [← h4, h2.1, h1]
          congr 2
          rw [h2.1, h1] at hge
          omega
    obtain ⟨fs, xs, h1, h2, h3⟩ := build n (Nat.le_refl _)
    refine ⟨fs, xs, h1, ⟨by rw [h2.1, h1], hl, by simpa [maxLen] using hcap, (fun e => by cases e), fun hn => ?_⟩, h2⟩
    have hx0 : 0 < xs.length := by rw [h2.1, h1]; exact Nat.mul_pos hn hs
    have h0 := h3 0 _ (List.getElem?_eq_getElem hx0)
    obtain ⟨b, off, spot⟩ := a
    have hspot : spot = none := by simpa [Addr.add] using World.cell?_spot h0
    subst hspot
    refine ⟨b, off, rfl, ?_, fun j u hu => ?_⟩
    · have := World.block_lt_of_cell? w _ h0
      simpa [Addr.add_lit] using this
    · have := h3 j u hu
      rwa [Addr.add_lit] at this
end
end Go.Proofs.YtbmocffnnlfnjaaGreat
/-
  Slices of any structs: read, of the call's own; append.
  Conditions: none.
-/
namespace Go.Proofs.YtbmocffnnlfnjaaGreat
set_option linter.unusedVariables false
set_option linter.unusedSimpArgs false
open Go.RowKit
theorem own_own_ne {w : World} {base base' e e' size size' n n' : Nat} {v v' : Value} {xs xs' : List Value} (h : w.ownsRow base e size v n xs) (h' : w.ownsRow base' e' size' v' n' xs') (hne : e ≠ e') : v'.ownBlock = none ∨ v'.ownBlock ≠ v.ownBlock := by
  rcases h'.2 with ⟨rfl, _⟩ | ⟨g', cap', cur', rfl, _, hh', _⟩
  · exact .inl rfl
  · right
    intro he
    rcases h.2 with ⟨rfl, _⟩ | ⟨g, cap, cur, rfl, _, hh, _⟩
    · cases he
    · have : g' = g := by simpa [Value.ownBlock] using he
      subst this
      rw [hh] at hh'
      injection hh' with hh'
      injection hh' with _ ht
      exact hne ht
section
variable {α : Type} {R R' : α → List Value → Prop} {w w' : World} {B B' size n c : Nat} {A : Option Addr} {fs : List α}
/-- A slice that is read, its elements by R. -/
def RS (R : α → List Value → Prop) (w : World) (B size : Nat) (A : Option Addr) (n c : Nat) (fs : List α) : Prop := ∃ xs, RV w B size A n c xs ∧ Rows R size fs xs
/-- A slice of the call's own. -/
def OS (R : α → List Value → Prop) (w : World) (base e size : Nat) (A : Option Addr) (n c : Nat) (fs : List α) : Prop := ∃ xs, OV w base e size A n c xs ∧ Rows R size fs xs
theorem RS.len (h : RS R w B size A n c fs) (hs : 0 < size) : fs.length = n := by
  obtain ⟨xs, h1, h2⟩ := h
  have e := h1.len
  rw [h2.len] at e
  exact Nat.eq_of_mul_eq_mul_right hs e
theorem RS.lt (h : RS R w B size A n c fs) : n ≤ 9223372036854775807 := by
  obtain ⟨xs, h1, h2⟩ := h
  exact Nat.le_trans h1.le h1.cap
theorem RS.keep (h : RS R w B size A n c fs) (hk : ∀ p : Addr, p.block < B → w'.cell? p = w.cell? p) (hi : ∀ f cs, R f cs → R' f cs) : RS R' w' B size A n c fs := by
  obtain ⟨xs, h1, h2⟩ := h
  exact ⟨xs, h1.keep hk, h2.imp hi⟩
theorem RS.below (h : RS R w B size A n c fs) (hb : Below B w w') (hi : ∀ f cs, R f cs → R' f cs) : RS R' w' B size A n c fs := h.keep (fun _ hp => hb.cell hp) hi
theorem RS.more (h : RS R w B size A n c fs) (hB : B ≤ B') (hi : ∀ f cs, R f cs → R' f cs) : RS R' w B' size A n c fs := by
  obtain ⟨xs, h1, h2⟩ := h
  exact ⟨xs, h1.more hB, h2.imp hi⟩
theorem RS.imp (h : RS R w B size A n c fs) (hi : ∀ f cs, R f cs → R' f cs) : RS R' w B size A n c fs := by
  obtain ⟨xs, h1, h2⟩ := h
  exact ⟨xs, h1, h2.imp hi⟩
theorem RS.at_ (h : RS R w B size A n c fs) (hs : 0 < size) {i : Nat} {f : α} (hf : fs[i]? = some f) : ∃ b o cs, A = some ⟨b, o, none⟩ ∧ b < B ∧ R f cs ∧ ∀ j u, j < size → cs[j]? = some u → w.cell? ⟨b, o + i * size + j, none⟩ = some u := by
  have hl := h.len hs
  have hi : i < n := by rw [← hl]; exact (List.getElem?_eq_some_iff.1 hf).1
  obtain ⟨xs, h1, h2⟩ := h
  obtain ⟨b, o, rfl, hb, hc⟩ := h1.at_ (by omega)
  refine ⟨b, o, _, rfl, hb, h2.2 i f hf, fun j u hj hu => ?_⟩
  rw [List.getElem?_take, if_pos hj, List.getElem?_drop] at hu
  rw [Nat.add_assoc]
  exact hc _ u hu
theorem RS.none_ : RS R w B size none 0 0 [] := ⟨[], RV.none_, Rows.nil⟩
theorem OS.none_ (w : World) (base e size : Nat) : OS R w base e size none 0 0 [] := ⟨[], OV.none_ _ _ _ _, Rows.nil⟩
theorem OS.rs {base e : Nat} (h : OS R w base e size A n c fs) : RS R w w.heap.size size A n c fs := by
  obtain ⟨xs, h1, h2⟩ := h
  exact ⟨xs, h1.rv, h2⟩
theorem OS.below {base e : Nat} (h : OS R w base e size A n c fs) (hb : Below w.heap.size w w') (hi : ∀ f cs, R f cs → R' f cs) : OS R' w' base e size A n c fs := by
  obtain ⟨xs, h1, h2⟩ := h
  exact ⟨xs, h1.below hb, h2.imp hi⟩
theorem OS.more {base base' e : Nat} (h : OS R w base e size A n c fs) (hb : base' ≤ base) (hi : ∀ f cs, R f cs → R' f cs) : OS R' w base' e size A n c fs := by
  obtain ⟨xs, h1, h2⟩ := h
  exact ⟨xs, h1.more hb, h2.imp hi⟩
theorem OS.kept {base e : Nat} {row : Option Nat} (h : OS R w base e size A n c fs) (hg : w.grownBy w' row) (hne : (Value.slice A n c).ownBlock = none ∨ (Value.slice A n c).ownBlock ≠ row) (hi : ∀ f cs, R f cs → R' f cs) : OS R' w' base e size A n c fs := by
  obtain ⟨xs, h1, h2⟩ := h
  exact ⟨xs, h1.kept hg hne, h2.imp hi⟩
theorem OS.imp {base e : Nat} (h : OS R w base e size A n c fs) (hi : ∀ f cs, R f cs → R' f cs) : OS R' w base e size A n c fs := by
  obtain ⟨xs, h1, h2⟩ := h
  exact ⟨xs, h1, h2.imp hi⟩
theorem OS.len {base e : Nat} (h : OS R w base e size A n c fs) (hs : 0 < size) : fs.length = n := h.rs.len hs
end
section
variable {α : Type} {P : Program} {T E size bytes : Nat} {z : Value}
/-- 'append(x, f)', f laid in a block of its own. -/
theorem wpList_apps (ht : ET P T E size bytes z) (R : World → α → List Value → Prop) {w : World} {ops : Array Oper} {rest : List Oper} {o : Oper} {a : Act} {Q : Exit → Act → World → Prop} (hgd : o.guard = none) (s x : Operand)
    (ho : o.op = .call { callee := .builtin .append, args := #[s, x], argTypes := #[T, T] })
    {A : Option Addr} {n c : Nat} (hs : a.eval s = .slice A n c) {g : Nat} (hx : a.eval x = .slice (some ⟨g, 0, none⟩) 1 1) (hgw : g = w.heap.size)
    (base : Nat) {l : List α} (hown : OS (R w) w base E size A n c l) (f : α) {cs : List Value} (hf : R w f cs) (hl : cs.length = size) (h1 : ∀ u ∈ cs, u.oneCell' = true)
    (hbytes : (n + 1) * bytes ≤ 140737488355328) (h63 : n + 1 ≤ 9223372036854775807) (hbase : base ≤ w.heap.size)
    (hR : ∀ w1 A1 n1 c1 xs, OV w base E size A1 n1 c1 xs → w.grownBy w1 (Value.slice A1 n1 c1).ownBlock → ∀ f cs, R w f cs → R w1 f cs)
    (h : ∀ A1 c1 w1, OS (R w1) w1 base E size A1 (n + 1) c1 (l ++ [f]) → Below base w w1 → w.grownBy w1 (Value.slice A n c).ownBlock →
      ((Value.slice A1 (n + 1) c1).ownBlock = (Value.slice A n c).ownBlock ∨ (Value.slice A1 (n + 1) c1).ownBlock = some (w.heap.size + 1)) → wpList P ops Q rest (a.put o.dst (.slice A1 (n + 1) c1)) w1) :
    wpList P ops Q (o :: rest) a (w.alloc (.cells cs.toArray E)) := by
  subst hgw
  obtain ⟨xs, k1, k2⟩ := hown
  have hnew := (OV.new (base := base) (e := E) (size := size) w cs 1 (by omega) (by omega) hbase).rv
  refine wpList_app ht hgd s x ho hs hx base (k1.alloc _) hnew h1 hbytes h63 (by simp; omega) fun A1 c1 w1 j1 j2 j3 => ?_
  have hg : w.grownBy w1 (Value.slice A n c).ownBlock := World.grownBy.trans (World.grownBy_alloc w _ _) j2
  have hi := hR w1 A n c xs k1 hg
  exact h A1 c1 w1 ⟨_, j1, Rows.append (k2.imp hi) (Rows.one (hi _ _ hf) hl)⟩ (grown_below hg k1.lt hbase) hg (by simpa using j3)
/-- The same, wherever the new cells lie. -/
theorem wpList_apps2 (ht : ET P T E size bytes z) (R : World → α → List Value → Prop) {w : World} {ops : Array Oper} {rest : List Oper} {o : Oper} {a : Act} {Q : Exit → Act → World → Prop} (hgd : o.guard = none) (s x : Operand)
    (ho : o.op = .call { callee := .builtin .append, args := #[s, x], argTypes := #[T, T] })
    {A : Option Addr} {n c : Nat} (hs : a.eval s = .slice A n c) {A' : Option Addr} {c' : Nat} (hx : a.eval x = .slice A' 1 c')
    (base : Nat) {l : List α} (hown : OS (R w) w base E size A n c l) (f : α) {cs : List Value} {B : Nat} (hr : RV w B size A' 1 c' cs) (hf : R w f cs) (h1 : ∀ u ∈ cs, u.oneCell' = true)
    (hbytes : (n + 1) * bytes ≤ 140737488355328) (h63 : n + 1 ≤ 9223372036854775807) (hbase : base ≤ w.heap.size)
    (hR : ∀ w1 A1 n1 c1 xs, OV w base E size A1 n1 c1 xs → w.grownBy w1 (Value.slice A1 n1 c1).ownBlock → ∀ f cs, R w f cs → R w1 f cs)
    (h : ∀ A1 c1 w1, OS (R w1) w1 base E size A1 (n + 1) c1 (l ++ [f]) → Below base w w1 → w.grownBy w1 (Value.slice A n c).ownBlock →
      ((Value.slice A1 (n + 1) c1).ownBlock = (Value.slice A n c).ownBlock ∨ (Value.slice A1 (n + 1) c1).ownBlock = some w.heap.size) → wpList P ops Q rest (a.put o.dst (.slice A1 (n + 1) c1)) w1) :
    wpList P ops Q (o :: rest) a w := by
  obtain ⟨xs, k1, k2⟩ := hown
  refine wpList_app ht hgd s x ho hs hx base k1 hr h1 hbytes h63 hbase fun A1 c1 w1 j1 j2 j3 => ?_
  have hi := hR w1 A n c xs k1 j2
  exact h A1 c1 w1 ⟨_, j1, Rows.append (k2.imp hi) (Rows.one (hi _ _ hf) (by have := hr.len; omega))⟩ (grown_below j2 k1.lt hbase) j2 j3
theorem RV.new (w : World) (e : TypeId) {cs : List Value} (hl : cs.length = size) : RV (w.alloc (.cells cs.toArray e)) (w.heap.size + 1) size (some ⟨w.heap.size, 0, none⟩) 1 1 cs := by
  refine (OV.new (base := 0) (e := e) (size := size) w cs 1 (by omega) (by omega) (Nat.zero_le _)).rv.more (by simp)
theorem RV.lit (w : World) (e m : Nat) {cs : List Value} (hl : cs.length = m * size) (hm : m ≤ 9223372036854775807) : RV (w.alloc (.cells cs.toArray e)) (w.heap.size + 1) size (some ⟨w.heap.size, 0, none⟩) m m cs := by
  refine (OV.new (base := 0) (e := e) (size := size) w cs m (by omega) hm (Nat.zero_le _)).rv.more (by simp)
end
end Go.Proofs.YtbmocffnnlfnjaaGreat
/-
  Spoil, of slices that may share their memory: blocks of bytes stay blocks of bytes.
  Conditions: none.
-/
namespace Go.Proofs.YtbmocffnnlfnjaaGreat
set_option linter.unusedVariables false
set_option linter.unusedSimpArgs false
open Go.RowKit
/-- Blocks of bytes stay such, and no byte becomes anything else; other blocks are as they were. -/
structure SpU (w w' : World) : Prop where
  size : w.heap.size ≤ w'.heap.size
  bytes : ∀ g cur, Blk w g 5 cur → ∃ cur', Blk w' g 5 cur' ∧ cur'.size = cur.size ∧ ∀ (i : Nat) (x : UInt8), cur[i]? = some (bv x) → ∃ y : UInt8, cur'[i]? = some (bv y)
  rest : ∀ g e cur, e ≠ 5 → Blk w g e cur → Blk w' g e cur
theorem SpU.refl (w : World) : SpU w w := ⟨Nat.le_refl _, fun g cur h => ⟨cur, h, rfl, fun i x hx => ⟨x, hx⟩⟩, fun _ _ _ _ h => h⟩
theorem SpU.trans {w w1 w2 : World} (h : SpU w w1) (k : SpU w1 w2) : SpU w w2 := by
  refine ⟨Nat.le_trans h.1 k.1, fun g cur hb => ?_, fun g e cur he hb => k.3 g e cur he (h.3 g e cur he hb)⟩
  obtain ⟨c1, h1, h2, h3⟩ := h.2 g cur hb
  obtain ⟨c2, k1, k2, k3⟩ := k.2 g c1 h1
  exact ⟨c2, k1, by omega, fun i x hx => by obtain ⟨y, hy⟩ := h3 i x hx; exact k3 i y hy⟩
theorem SpU.below {w w' : World} (hb : Below w.heap.size w w') : SpU w w' := ⟨hb.size, fun g cur h => ⟨cur, h.later hb, rfl, fun i x hx => ⟨x, hx⟩⟩, fun _ _ _ _ h => h.later hb⟩
theorem SpU.set_ (w : World) {g : Nat} {cur : Array Value} (hg : Blk w g 5 cur) (i : Nat) (y : UInt8) {v : Int} (hv : v = (y.toNat : Int)) : SpU w (w.setCell ⟨g, i, none⟩ (.int .u8 v)) := by
  subst hv
  refine ⟨by simp [World.setCell], fun g' cur' h' => ?_, fun g' e cur' he h' => h'.far (p := ⟨g, i, none⟩) (Blk.ne_ h' hg he) _⟩
  by_cases e : g' = g
  · subst e
    refine ⟨_, h'.set_ i (bv y), by simp, fun j x hx => ?_⟩
    rw [Array.getElem?_setIfInBounds]
    by_cases e : i = j
    · subst e
      have : i < cur'.size := (Array.getElem?_eq_some_iff.1 hx).1
      exact ⟨y, by simp [this]⟩
    · exact ⟨x, by rw [if_neg e]; exact hx⟩
  · exact ⟨cur', h'.far (p := ⟨g, i, none⟩) e _, rfl, fun j x hx => ⟨x, hx⟩⟩
/-- A row of other elements is as it was. -/
theorem OV.sp {w w' : World} {base e size n c : Nat} {A : Option Addr} {xs : List Value} (h : OV w base e size A n c xs) (k : SpU w w') (he : e ≠ 5) : OV w' base e size A n c xs := by
  obtain ⟨hl, hr⟩ := h
  refine ⟨hl, ?_⟩
  rcases hr with h1 | ⟨g, cap, cur, hv, hb, hg, r⟩
  · exact .inl h1
  · exact .inr ⟨g, cap, cur, hv, hb, k.rest g e cur he hg, r⟩
/-- A slice of bytes that may be written to, from block 'base' on. -/
structure WB (w : World) (base : Nat) (A : Option Addr) (n c : Nat) : Prop where
  le : n ≤ c
  cap : c ≤ 9223372036854775807
  nil : A = none → n = 0 ∧ c = 0
  at_ : 0 < c → ∃ g cur, A = some ⟨g, 0, none⟩ ∧ base ≤ g ∧ Blk w g 5 cur ∧ c ≤ cur.size ∧ ∀ i, i < n → ∃ x : UInt8, cur[i]? = some (bv x)
theorem WB.sp {w w' : World} {base n c : Nat} {A : Option Addr} (h : WB w base A n c) (k : SpU w w') : WB w' base A n c := by
  refine ⟨h.le, h.cap, h.nil, fun hc => ?_⟩
  obtain ⟨g, cur, e, hg, hb, hs, hx⟩ := h.at_ hc
  obtain ⟨cur', k1, k2, k3⟩ := k.2 g cur hb
  exact ⟨g, cur', e, hg, k1, by omega, fun i hi => by obtain ⟨x, hx⟩ := hx i hi; exact k3 i x hx⟩
theorem WB.below {w w' : World} {base n c : Nat} {A : Option Addr} (h : WB w base A n c) (hb : Below w.heap.size w w') : WB w' base A n c := h.sp (SpU.below hb)
theorem WB.more {w : World} {base base' n c : Nat} {A : Option Addr} (h : WB w base A n c) (hb : base' ≤ base) : WB w base' A n c :=
  ⟨h.le, h.cap, h.nil, fun hc => by obtain ⟨g, cur, e, hg, r⟩ := h.at_ hc; exact ⟨g, cur, e, by omega, r⟩⟩
theorem WB.none_ (w : World) (base : Nat) : WB w base none 0 0 := ⟨Nat.le_refl _, by omega, fun _ => ⟨rfl, rfl⟩, fun h => absurd h (by omega)⟩
theorem OB.wb {w : World} {base n c : Nat} {A : Option Addr} {l : List UInt8} (h : OB w base A n c l) : WB w base A n c := by
  refine ⟨h.rb.le, h.rb.cap, h.rb.nil, fun hc => ?_⟩
  have hl := h.rb.len
  rcases h.2 with ⟨hv, _⟩ | ⟨g, cap, cur, hv, hb, hg, hnc, hcm, hcs, ht⟩
  · injection hv with _ _ h3; omega
  · injection hv with h1 h2 h3
    subst h1 h3
    refine ⟨g, cur, rfl, hb, hg, by omega, fun i hi => ⟨l.getD i 0, ?_⟩⟩
    have : (l.map bv)[i]? = cur.toList[i]? := by rw [← ht, List.getElem?_take, if_pos (by omega)]
    rw [← Array.getElem?_toList, ← this]
    simp [List.getD, List.getElem?_eq_getElem (show i < l.length by omega)]
/-- 'x[:k:k]' -/
theorem WB.cut {w : World} {base n c k : Nat} {A : Option Addr} (h : WB w base A n c) (hk : k ≤ n) : WB w base A k k :=
  ⟨Nat.le_refl _, Nat.le_trans (Nat.le_trans hk h.le) h.cap, fun e => by have := h.nil e; omega, fun hc => by
    have := h.le
    obtain ⟨g, cur, e, hg, hb, hs, hx⟩ := h.at_ (by omega)
    exact ⟨g, cur, e, hg, hb, by omega, fun i hi => hx i (by omega)⟩⟩
theorem WB.own_ne {w : World} {base n c : Nat} {A : Option Addr} {base' e size m c' : Nat} {A' : Option Addr} {xs : List Value} (h : WB w base A n c) (hc : 0 < c) (h' : OV w base' e size A' m c' xs) (hne : e ≠ 5) : (Value.slice A' m c').ownBlock ≠ (Value.slice A n c).ownBlock := by
  obtain ⟨g, cur, rfl, _, hb, _⟩ := h.at_ hc
  exact own_blk_ne h' hb hne
theorem grown_row {w : World} {base e n : Nat} {v : Value} {xs : List Value} (h : w.ownsRow base e 1 v (n + 1) xs) :
    ∃ g c u, v = .slice (some ⟨g, 0, none⟩) (n + 1) c ∧ base ≤ g ∧ g < w.heap.size ∧ n + 1 ≤ c ∧ w.cell? ⟨g, n, none⟩ = some u ∧ w.frozen? ⟨g, n, none⟩ = false ∧ ∃ cur, Blk w g e cur := by
  rcases h.2 with ⟨_, h0⟩ | ⟨g, cap, cur, rfl, hb, hg, hnc, hcm, hcs, ht⟩
  · omega
  · have hB : Blk w g e cur := hg
    exact ⟨g, cap, cur[n]'(by omega), rfl, hb, hB.lt, hnc, (hB.cell n).trans (Array.getElem?_eq_getElem _), hB.frozen n, cur, hB⟩
theorem one_new (w : World) (v : Value) (e : TypeId) : ∀ (j : Nat) (u : Value), ([v] : List Value)[j]? = some u → (w.alloc (.cells #[v] e)).cell? (({ block := w.heap.size, off := 0 } : Addr).add j) = some u := by
  intro j u hu
  obtain rfl : j = 0 := by
    have := (List.getElem?_eq_some_iff.1 hu).1
    simp at this
    exact this
  rw [Addr.add_lit]
  exact ((Blk.new w e #[v]).cell 0).trans hu
theorem one_one : ∀ u ∈ ([.int .u8 99] : List Value), u.oneCell' = true := by
  intro u hu
  simp only [List.mem_cons, List.not_mem_nil, or_false] at hu
  subst hu
  rfl
set_option maxRecDepth 100000 in
set_option maxHeartbeats 1000000 in
theorem Spoil_wb {A : Option Addr} {n c base : Nat} (w : World) (h : WB w base A n c) (hn : n < 140737488355328) (hB : base ≤ w.heap.size) :
    Calls Tryz.prog 28 #[.slice A n c] w fun e w' => e = .returned (.tuple #[]) ∧ Below base w w' ∧ SpU w w' ∧ w.grownBy w' (Value.slice A n c).ownBlock := by
  obtain ⟨i0, hi, hz, hs, hb⟩ := etb.info
  have hcap := h.cap
  have hle := h.le
  go_enter Tryz.func28, Tryz.ntmps28
  go_wp2_with fail
  go_loopw [2] (fun i wr => ∃ k : Nat, k ≤ n ∧ i = .int .i64 k ∧ Below base w wr ∧ SpU w wr ∧ w.grownBy wr (Value.slice A n c).ownBlock) (fun i _ => n - (intOf i).toNat)
  case atStart => exact ⟨0, Nat.zero_le _, rfl, Below.refl _ _, SpU.refl _, World.grownBy.refl _ _⟩
  case round =>
    obtain ⟨k, hk, rfl, hbel, hsp, hgr⟩ := hrel
    have h2 := h.sp hsp
    by_cases hlt : k < n
    · obtain ⟨g, cur, rfl, hbg, hbl, hsz, hx⟩ := h2.at_ (by omega)
      obtain ⟨x, hx⟩ := hx k hlt
      have hck : wr.cell? ⟨g, k, none⟩ = some (.int .u8 (x.toNat : Int)) := (hbl.cell k).trans hx
      have hfr := hbl.frozen k
      have hxl := byte_lt x
      have hlg := hbl.lt
      have HBL := Lib.hid hbl
      clear h2 hx hbl
      go_wp2
      go_roundw
      case rel =>
        exact ⟨k + 1, by omega, by go_num, hbel.setCell (p := ⟨g, k, none⟩) hbg _, hsp.trans (SpU.set_ wr HBL.out k (x ^^^ 90) (u8_xor_bytes x 90)), grown_setCell (p := ⟨g, k, none⟩) hgr (.inl rfl) _⟩
      case measure => simp [intOf]; omega
    · obtain rfl : k = n := by omega
      by_cases hc : k < c
      · obtain ⟨g, cur, rfl, hbg, hbl, hsz, hx⟩ := h2.at_ (by omega)
        obtain ⟨u, hu⟩ : ∃ u, cur[k]? = some u := ⟨_, Array.getElem?_eq_getElem (show k < cur.size by omega)⟩
        have hck : wr.cell? ⟨g, k, none⟩ = some u := (hbl.cell k).trans hu
        have hfr := hbl.frozen k
        have hlg := hbl.lt
        have b1 := alloc_one wr (.cells #[.int .u8 99] 5)
        have hbl1 := hbl.alloc (.cells #[.int .u8 99] 5)
        have hck1 := (hbl1.cell k).trans hu
        have hfr1 := hbl1.frozen k
        have S1 := SpU.set_ wr hbl k 99 (v := 99) rfl
        have S2 := SpU.set_ (wr.setCell ⟨g, k, none⟩ (.int .u8 99)) (hbl.set_ k (.int .u8 99)) k 98 (v := 98) rfl
        have S3 := SpU.below (alloc_one ((wr.setCell ⟨g, k, none⟩ (.int .u8 99)).setCell ⟨g, k, none⟩ (.int .u8 98)) (.cells #[.int .u8 99] 5))
        have HS := Lib.hid (((hsp.trans S1).trans S2).trans S3)
        clear h2 hx hu hbl hbl1 S1 S2 S3
        go_wp2_with fail
        go_end0
        refine ⟨rfl, ?_, HS.out, ?_⟩
        · exact ((hbel.setCell (p := ⟨g, k, none⟩) hbg _).setCell (p := ⟨g, k, none⟩) hbg _).alloc (by simpa [World.setCell] using Nat.le_trans hB hbel.size) _
        · exact grown_alloc (grown_setCell (p := ⟨g, k, none⟩) (grown_setCell (p := ⟨g, k, none⟩) hgr (.inl rfl) _) (.inl rfl) _) _
      · obtain rfl : k = c := by omega
        have b1 := alloc_one wr (.cells #[.int .u8 99] 5)
        have h3 := h2.below b1
        obtain ⟨olds, ho1, ho2⟩ : ∃ olds : List Value, olds.length = k * 1 ∧ ∀ b, A = some b → ∀ j u, olds[j]? = some u → (wr.alloc (.cells #[.int .u8 99] 5)).cell? (b.add j) = some u := by
          rcases Nat.eq_zero_or_pos k with h0 | h0
          · exact ⟨[], by simp [h0], fun b _ j u hu => by simp at hu⟩
          · obtain ⟨g, cur, rfl, hbg, hbl, hsz, hx⟩ := h3.at_ h0
            refine ⟨cur.toList.take k, by simp; omega, fun b hb j u hu => ?_⟩
            injection hb with hb
            subst hb
            rw [Addr.add_lit, Nat.zero_add, hbl.cell j, ← Array.getElem?_toList]
            rw [List.getElem?_take] at hu
            split at hu
            · exact hu
            · cases hu
        have hnil := h.nil
        have HSP := Lib.hid (hsp.trans (SpU.below b1))
        have HGR := Lib.hid hgr
        have HO1 := Lib.hid ho1; have HO2 := Lib.hid ho2; have HNIL := Lib.hid hnil; have HHI := Lib.hid hi; have HHZ := Lib.hid hz; have HHS := Lib.hid hs; have HHB := Lib.hid hb
        clear h2 h3 ho1 ho2 h hgr hsp hnil hi hz hs hb
        go_wp2_with (at_builtin; refine wpList_append_grows _ rfl (.tmp 17) (.tmp 18) 49 rfl 5 i0 (.int .u8 0) 1 1 Tryz.underlying49 HHI.out HHZ.out HHS.out HHB.out rfl (by decide) A k k olds rfl HNIL.out HO1.out HO2.out ⟨wr.heap.size, 0, none⟩ 1 1 [.int .u8 99] rfl rfl (one_new _ _ _) one_one (by omega) (by unfold maxLen; omega) (by omega) ?_; intro v1 w2 o2 g2; obtain ⟨g1, c1, u1, rfl, hg1, hlt1, hc1, q1, q2, cur1, hB1⟩ := grown_row o2; have HO := Lib.hid hB1; clear o2 hB1)
        have hw2 : Below base w w2 := by
          refine (hbel.alloc (Nat.le_trans hB hbel.size) _).grown (row := none) g2 (by simp; exact Nat.le_trans hB (Nat.le_trans hbel.size (Nat.le_succ _))) (fun k hk => by cases hk)
        have hb2 : Below (wr.alloc (.cells #[.int .u8 99] 5)).heap.size (wr.alloc (.cells #[.int .u8 99] 5)) w2 := (Below.refl _ _).grown (row := none) g2 (Nat.le_refl _) (fun k hk => by cases hk)
        have hbg1 : base ≤ g1 := Nat.le_trans hB (Nat.le_trans hbel.size (Nat.le_trans b1.size hg1))
        go_end0
        refine ⟨rfl, hw2.setCell (p := ⟨g1, k, none⟩) hbg1 _, (HSP.out.trans (SpU.below hb2)).trans (SpU.set_ w2 HO.out k 98 rfl), ?_⟩
        refine grown_setCell (p := ⟨g1, k, none⟩) (World.grownBy.trans (grown_alloc HGR.out _) (grown_of_below hb2 _)) (.inr ?_) _
        exact Nat.le_trans hbel.size (Nat.le_trans b1.size hg1)
/-- Bytes of the call's own, whose capacity may end ahead of their block's end. -/
structure OW (w : World) (base : Nat) (A : Option Addr) (n c : Nat) (l : List UInt8) : Prop where
  len : l.length = n
  le : n ≤ c
  cap : c ≤ 9223372036854775807
  nil : A = none → n = 0 ∧ c = 0
  at_ : 0 < c → ∃ g cur, A = some ⟨g, 0, none⟩ ∧ base ≤ g ∧ Blk w g 5 cur ∧ c ≤ cur.size ∧ cur.toList.take n = l.map bv
section
variable {w w' : World} {base base' n c : Nat} {A : Option Addr} {l : List UInt8}
theorem OB.ow (h : OB w base A n c l) : OW w base A n c l := by
  refine ⟨h.rb.len, h.rb.le, h.rb.cap, h.rb.nil, fun hc => ?_⟩
  rcases h.2 with ⟨hv, _⟩ | ⟨g, cap, cur, hv, hb, hg, hnc, hcm, hcs, ht⟩
  · injection hv with _ _ h3; omega
  · injection hv with h1 h2 h3
    subst h1 h3
    exact ⟨g, cur, rfl, hb, hg, by omega, by simpa using ht⟩
theorem OW.wb (h : OW w base A n c l) : WB w base A n c := by
  refine ⟨h.le, h.cap, h.nil, fun hc => ?_⟩
  obtain ⟨g, cur, e, hg, hb, hs, ht⟩ := h.at_ hc
  refine ⟨g, cur, e, hg, hb, hs, fun i hi => ⟨l.getD i 0, ?_⟩⟩
  have hl := h.len
  have : (l.map bv)[i]? = cur.toList[i]? := by rw [← ht, List.getElem?_take, if_pos (by omega)]
  rw [← Array.getElem?_toList, ← this]
  simp [List.getD, List.getElem?_eq_getElem (show i < l.length by omega)]
theorem OW.rb (h : OW w base A n c l) : RB w w.heap.size A n c l := by
  have hl := h.len
  have hle := h.le
  refine ⟨hl, hle, h.cap, h.nil, fun hn => ?_⟩
  obtain ⟨g, cur, rfl, hg, hb, hs, ht⟩ := h.at_ (by omega)
  refine ⟨g, 0, rfl, hb.lt, fun i hi => ?_⟩
  rw [Nat.zero_add, hb.cell i]
  have : (l.map bv)[i]? = cur.toList[i]? := by rw [← ht, List.getElem?_take, if_pos (by omega)]
  rw [← Array.getElem?_toList, ← this]
  simp [List.getD, List.getElem?_eq_getElem (show i < l.length by omega), bv]
theorem OW.cut (h : OW w base A n c l) {k : Nat} (hk : k ≤ n) : OW w base A k k (l.take k) := by
  have hle := h.le
  have hcap := h.cap
  refine ⟨by rw [List.length_take, h.len]; omega, Nat.le_refl _, by omega, fun e => by have := h.nil e; omega, fun hc => ?_⟩
  obtain ⟨g, cur, e, hg, hb, hs, ht⟩ := h.at_ (by omega)
  refine ⟨g, cur, e, hg, hb, by omega, ?_⟩
  rw [List.map_take, ← ht, List.take_take, Nat.min_eq_left hk]
theorem OW.more (h : OW w base A n c l) (hb : base' ≤ base) : OW w base' A n c l :=
  ⟨h.len, h.le, h.cap, h.nil, fun hc => by obtain ⟨g, cur, e, hg, r⟩ := h.at_ hc; exact ⟨g, cur, e, by omega, r⟩⟩
theorem OW.below (h : OW w base A n c l) (hb : Below w.heap.size w w') : OW w' base A n c l :=
  ⟨h.len, h.le, h.cap, h.nil, fun hc => by obtain ⟨g, cur, e, hg, k, r⟩ := h.at_ hc; exact ⟨g, cur, e, hg, k.later hb, r⟩⟩
theorem OW.grown {row : Option Nat} (h : OW w base A n c l) (hg : w.grownBy w' row) (hne : ∀ g cur, Blk w g 5 cur → some g ≠ row) : OW w' base A n c l :=
  ⟨h.len, h.le, h.cap, h.nil, fun hc => by obtain ⟨g, cur, e, hb, k, r⟩ := h.at_ hc; exact ⟨g, cur, e, hb, k.grown hg (hne g cur k), r⟩⟩
/-- Beside an append to a row of other elements. -/
theorem OW.beside {base' e size m c' : Nat} {A' : Option Addr} {xs : List Value} (h : OW w base A n c l) (h' : OV w base' e size A' m c' xs) (hne : e ≠ 5) (hg : w.grownBy w' (Value.slice A' m c').ownBlock) : OW w' base A n c l :=
  h.grown hg fun _ _ hb he => own_blk_ne h' hb hne he.symm
theorem OW.none_ (w : World) (base : Nat) : OW w base none 0 0 [] := ⟨rfl, Nat.le_refl _, by omega, fun _ => ⟨rfl, rfl⟩, fun h => absurd h (by omega)⟩
end
end Go.Proofs.YtbmocffnnlfnjaaGreat
/-
  Entries as cells; a block of eleven cells that is known whole.
  Conditions: none.
-/
namespace Go.Proofs.YtbmocffnnlfnjaaGreat
set_option linter.unusedVariables false
set_option linter.unusedSimpArgs false
open Go.RowKit
/-- The cells of an entry. -/
def enL (e : Ent.En) (A : Option Addr) (n c : Nat) : List Value := [.int .i64 e.index, .int .i64 e.sub, .string (T e.name), .int .i64 e.type, .int .i64 e.access, .bool e.map, .bool e.store, .int .i64 e.max, .int .i64 e.low, .int .i64 e.high, .slice A n c]
def enV (e : Ent.En) (A : Option Addr) (n c : Nat) : Value := .agg #[.int .i64 e.index, .int .i64 e.sub, .string (T e.name), .int .i64 e.type, .int .i64 e.access, .bool e.map, .bool e.store, .int .i64 e.max, .int .i64 e.low, .int .i64 e.high, .slice A n c]
theorem Blk.eleven {w : World} {g : Nat} {t : TypeId} {x0 x1 x2 x3 x4 x5 x6 x7 x8 x9 x10 : Value} (h : Blk w g t #[x0, x1, x2, x3, x4, x5, x6, x7, x8, x9, x10]) : (w.cell? ⟨g, 0, none⟩ = some x0 ∧ w.cell? ⟨g, 1, none⟩ = some x1 ∧ w.cell? ⟨g, 2, none⟩ = some x2 ∧ w.cell? ⟨g, 3, none⟩ = some x3 ∧ w.cell? ⟨g, 4, none⟩ = some x4 ∧ w.cell? ⟨g, 5, none⟩ = some x5 ∧ w.cell? ⟨g, 6, none⟩ = some x6 ∧ w.cell? ⟨g, 7, none⟩ = some x7 ∧ w.cell? ⟨g, 8, none⟩ = some x8 ∧ w.cell? ⟨g, 9, none⟩ = some x9 ∧ w.cell? ⟨g, 10, none⟩ = some x10) ∧ (w.frozen? ⟨g, 0, none⟩ = false ∧ w.frozen? ⟨g, 1, none⟩ = false ∧ w.frozen? ⟨g, 2, none⟩ = false ∧ w.frozen? ⟨g, 3, none⟩ = false ∧ w.frozen? ⟨g, 4, none⟩ = false ∧ w.frozen? ⟨g, 5, none⟩ = false ∧ w.frozen? ⟨g, 6, none⟩ = false ∧ w.frozen? ⟨g, 7, none⟩ = false ∧ w.frozen? ⟨g, 8, none⟩ = false ∧ w.frozen? ⟨g, 9, none⟩ = false ∧ w.frozen? ⟨g, 10, none⟩ = false) := ⟨⟨h.cell 0, h.cell 1, h.cell 2, h.cell 3, h.cell 4, h.cell 5, h.cell 6, h.cell 7, h.cell 8, h.cell 9, h.cell 10⟩, h.frozen 0, h.frozen 1, h.frozen 2, h.frozen 3, h.frozen 4, h.frozen 5, h.frozen 6, h.frozen 7, h.frozen 8, h.frozen 9, h.frozen 10⟩
theorem Blk.store11 {w : World} {g : Nat} {t : TypeId} {x0 x1 x2 x3 x4 x5 x6 x7 x8 x9 x10 : Value} (h : Blk w g t #[x0, x1, x2, x3, x4, x5, x6, x7, x8, x9, x10]) (y0 y1 y2 y3 y4 y5 y6 y7 y8 y9 y10 : Value) : Blk (World.setCell (World.setCell (World.setCell (World.setCell (World.setCell (World.setCell (World.setCell (World.setCell (World.setCell (World.setCell (World.setCell w ⟨g, 0, none⟩ y0) ⟨g, 1, none⟩ y1) ⟨g, 2, none⟩ y2) ⟨g, 3, none⟩ y3) ⟨g, 4, none⟩ y4) ⟨g, 5, none⟩ y5) ⟨g, 6, none⟩ y6) ⟨g, 7, none⟩ y7) ⟨g, 8, none⟩ y8) ⟨g, 9, none⟩ y9) ⟨g, 10, none⟩ y10) g t #[y0, y1, y2, y3, y4, y5, y6, y7, y8, y9, y10] := by
  have h0 : Blk _ g t #[y0, x1, x2, x3, x4, x5, x6, x7, x8, x9, x10] := h.set_ 0 y0
  have h1 : Blk _ g t #[y0, y1, x2, x3, x4, x5, x6, x7, x8, x9, x10] := h0.set_ 1 y1
  have h2 : Blk _ g t #[y0, y1, y2, x3, x4, x5, x6, x7, x8, x9, x10] := h1.set_ 2 y2
  have h3 : Blk _ g t #[y0, y1, y2, y3, x4, x5, x6, x7, x8, x9, x10] := h2.set_ 3 y3
  have h4 : Blk _ g t #[y0, y1, y2, y3, y4, x5, x6, x7, x8, x9, x10] := h3.set_ 4 y4
  have h5 : Blk _ g t #[y0, y1, y2, y3, y4, y5, x6, x7, x8, x9, x10] := h4.set_ 5 y5
  have h6 : Blk _ g t #[y0, y1, y2, y3, y4, y5, y6, x7, x8, x9, x10] := h5.set_ 6 y6
  have h7 : Blk _ g t #[y0, y1, y2, y3, y4, y5, y6, y7, x8, x9, x10] := h6.set_ 7 y7
  have h8 : Blk _ g t #[y0, y1, y2, y3, y4, y5, y6, y7, y8, x9, x10] := h7.set_ 8 y8
  have h9 : Blk _ g t #[y0, y1, y2, y3, y4, y5, y6, y7, y8, y9, x10] := h8.set_ 9 y9
  have h10 : Blk _ g t #[y0, y1, y2, y3, y4, y5, y6, y7, y8, y9, y10] := h9.set_ 10 y10
  exact h10
theorem below_set11 {B : Nat} {a w : World} {g : Nat} (h : Below B a w) (hg : B ≤ g) (y0 y1 y2 y3 y4 y5 y6 y7 y8 y9 y10 : Value) : Below B a (World.setCell (World.setCell (World.setCell (World.setCell (World.setCell (World.setCell (World.setCell (World.setCell (World.setCell (World.setCell (World.setCell w ⟨g, 0, none⟩ y0) ⟨g, 1, none⟩ y1) ⟨g, 2, none⟩ y2) ⟨g, 3, none⟩ y3) ⟨g, 4, none⟩ y4) ⟨g, 5, none⟩ y5) ⟨g, 6, none⟩ y6) ⟨g, 7, none⟩ y7) ⟨g, 8, none⟩ y8) ⟨g, 9, none⟩ y9) ⟨g, 10, none⟩ y10) := (((((((((((h.setCell (p := ⟨g, 0, none⟩) hg y0).setCell (p := ⟨g, 1, none⟩) hg y1).setCell (p := ⟨g, 2, none⟩) hg y2).setCell (p := ⟨g, 3, none⟩) hg y3).setCell (p := ⟨g, 4, none⟩) hg y4).setCell (p := ⟨g, 5, none⟩) hg y5).setCell (p := ⟨g, 6, none⟩) hg y6).setCell (p := ⟨g, 7, none⟩) hg y7).setCell (p := ⟨g, 8, none⟩) hg y8).setCell (p := ⟨g, 9, none⟩) hg y9).setCell (p := ⟨g, 10, none⟩) hg y10)
theorem OB.far11 {w : World} {base g n c : Nat} {A : Option Addr} {l : List UInt8} (h : OB w base A n c l) (hg : g < base) (y0 y1 y2 y3 y4 y5 y6 y7 y8 y9 y10 : Value) : OB (World.setCell (World.setCell (World.setCell (World.setCell (World.setCell (World.setCell (World.setCell (World.setCell (World.setCell (World.setCell (World.setCell w ⟨g, 0, none⟩ y0) ⟨g, 1, none⟩ y1) ⟨g, 2, none⟩ y2) ⟨g, 3, none⟩ y3) ⟨g, 4, none⟩ y4) ⟨g, 5, none⟩ y5) ⟨g, 6, none⟩ y6) ⟨g, 7, none⟩ y7) ⟨g, 8, none⟩ y8) ⟨g, 9, none⟩ y9) ⟨g, 10, none⟩ y10) base A n c l := (((((((((((h.far hg 0 y0).far hg 1 y1).far hg 2 y2).far hg 3 y3).far hg 4 y4).far hg 5 y5).far hg 6 y6).far hg 7 y7).far hg 8 y8).far hg 9 y9).far hg 10 y10)
theorem Blk.far11 {w : World} {g k : Nat} {t : TypeId} {cs : Array Value} (h : Blk w k t cs) (hk : k ≠ g) (y0 y1 y2 y3 y4 y5 y6 y7 y8 y9 y10 : Value) : Blk (World.setCell (World.setCell (World.setCell (World.setCell (World.setCell (World.setCell (World.setCell (World.setCell (World.setCell (World.setCell (World.setCell w ⟨g, 0, none⟩ y0) ⟨g, 1, none⟩ y1) ⟨g, 2, none⟩ y2) ⟨g, 3, none⟩ y3) ⟨g, 4, none⟩ y4) ⟨g, 5, none⟩ y5) ⟨g, 6, none⟩ y6) ⟨g, 7, none⟩ y7) ⟨g, 8, none⟩ y8) ⟨g, 9, none⟩ y9) ⟨g, 10, none⟩ y10) k t cs := (((((((((((h.far (p := ⟨g, 0, none⟩) hk y0).far (p := ⟨g, 1, none⟩) hk y1).far (p := ⟨g, 2, none⟩) hk y2).far (p := ⟨g, 3, none⟩) hk y3).far (p := ⟨g, 4, none⟩) hk y4).far (p := ⟨g, 5, none⟩) hk y5).far (p := ⟨g, 6, none⟩) hk y6).far (p := ⟨g, 7, none⟩) hk y7).far (p := ⟨g, 8, none⟩) hk y8).far (p := ⟨g, 9, none⟩) hk y9).far (p := ⟨g, 10, none⟩) hk y10)
end Go.Proofs.YtbmocffnnlfnjaaGreat
