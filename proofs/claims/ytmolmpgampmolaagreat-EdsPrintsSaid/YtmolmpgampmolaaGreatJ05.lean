/-
  Texts joined: Frame, Open, Seq, LexPred, LexHead, LexPass.
  Conditions: none.
-/
import Derived.Test.YtmolmpgampmolaaGreatJ02
import Derived.Test.YtmolmpgampmolaaGreatJ03
import Derived.Test.YtmolmpgampmolaaGreatJ04
import Derived.ProofKit
import Derived.OpenShut
import Derived.ShutString
import Derived.ChangeOld
import Derived.Deep.Slices
import Derived.Laws.RangeString
import Derived.Lib.OthersKept
import Derived.Lib.TrimU
import Derived.Lib.MapLaws
import Derived.Laws.Runes
import Derived.KernelRfl
/-
  The row's frame: what an argument that reads as bytes is in memory.
  Conditions: none.
-/
namespace Go.Proofs.YtmolmpgampmolaaGreat
set_option linter.unusedVariables false
set_option linter.unusedSimpArgs false
open Go.ChangeShapes Go.WideShapes Go.ChangeAt Go.RowKit
theorem wf_u8 {n : Int} (h : (Lit.int .u8 n).wf = true) : 0 ≤ n ∧ n ≤ 255 := bounds_u8 h
section
variable {H : Type} {enc : TypeId × Value → H} {P : Program} {w : World} {spare : Nat → Bool} {held : Bool}
/-- An argument '[]byte'. -/
theorem open_bytes {t e : TypeId} {A : Option Addr} {n c : Nat} {x : DataW H × List MemPlace} {fuel : Nat} (ht : P.underlying t = some (.slice e)) (he : P.underlying e = some (.int .u8)) (hc : P.cellsOf e = 1)
    (h : DataW.trod enc P w 0 spare held fuel t [.slice A n c] = some x) : ∃ l, RB w w.heap.size A n c l := by
  rcases open_ints ht he hc h with ⟨hcs, _⟩ | ⟨a, len, cap, zs, hcs, _, hl, hm, hz, _, hcell, hwz⟩
  · simp at hcs
    obtain ⟨rfl, rfl, rfl⟩ := hcs
    exact ⟨[], RB.none_⟩
  · simp at hcs
    obtain ⟨rfl, rfl, rfl⟩ := hcs
    have hzl : n ≤ zs.length := by rw [hz]; split <;> omega
    refine ⟨(zs.take n).map fun z => UInt8.ofNat z.toNat, by simp; omega, hl, by simpa [maxLen] using hm, (fun e => by cases e), fun hn => ?_⟩
    obtain ⟨b, off, spot⟩ := a
    have h0 := hcell 0 (by omega)
    have hspot : spot = none := by simpa [Addr.add] using World.cell?_spot h0
    subst hspot
    refine ⟨b, off, rfl, ?_, fun i hi => ?_⟩
    · have := World.block_lt_of_cell? w _ h0
      simpa [Addr.add_lit] using this
    · have h1 := hcell i (by omega)
      rw [Addr.add_lit] at h1
      rw [h1]
      have hil : i < zs.length := by omega
      have hw := bounds_u8 (hwz zs[i] (List.getElem_mem hil))
      have e1 : zs.getD i 0 = zs[i] := by simp [List.getD, hil]
      have e2 : ((zs.take n).map fun z => UInt8.ofNat z.toNat).getD i 0 = UInt8.ofNat zs[i].toNat := by
        simp [List.getD, hil, hi]
      rw [e1, e2, UInt8.toNat_ofNat']
      congr 2
      omega
end
end Go.Proofs.YtmolmpgampmolaaGreat
/-
  Arguments as cells: structs of any fields, slices of any elements.
  Conditions: none.
-/
namespace Go.Proofs.YtmolmpgampmolaaGreat
set_option linter.unusedVariables false
set_option linter.unusedSimpArgs false
open Go.ChangeShapes Go.WideShapes Go.ChangeAt Go.RowKit
/-- The cells xs are the elements fs, 'size' cells an element. -/
def Rows {α : Type} (R : α → List Value → Prop) (size : Nat) (fs : List α) (xs : List Value) : Prop :=
  xs.length = fs.length * size ∧ ∀ i f, fs[i]? = some f → R f ((xs.drop (i * size)).take size)
section
variable {α : Type} {R R' : α → List Value → Prop} {size : Nat} {fs gs : List α} {xs ys : List Value}
theorem Rows.nil : Rows R size [] [] := ⟨by simp, fun i f h => by simp at h⟩
theorem Rows.imp (h : Rows R size fs xs) (hi : ∀ f cs, R f cs → R' f cs) : Rows R' size fs xs := ⟨h.1, fun i f hf => hi _ _ (h.2 i f hf)⟩
theorem Rows.append (h : Rows R size fs xs) (h' : Rows R size gs ys) : Rows R size (fs ++ gs) (xs ++ ys) := by
  refine ⟨by rw [List.length_append, List.length_append, h.1, h'.1, Nat.add_mul], fun i f hf => ?_⟩
  rcases Nat.lt_or_ge i fs.length with hi | hi
  · rw [List.getElem?_append_left hi] at hf
    have h1 := h.2 i f hf
    have hle : (i + 1) * size ≤ xs.length := by rw [h.1]; exact Nat.mul_le_mul_right _ hi
    rw [Nat.add_mul, Nat.one_mul] at hle
    rw [List.drop_append_of_le_length (by omega), List.take_append_of_le_length (by rw [List.length_drop]; omega)]
    exact h1
  · rw [List.getElem?_append_right hi] at hf
    have h1 := h'.2 _ f hf
    have e : i * size = xs.length + (i - fs.length) * size := by rw [h.1, Nat.sub_mul]; have := Nat.mul_le_mul_right size hi; omega
    rw [e, List.drop_append, List.drop_of_length_le (by omega), List.nil_append, Nat.add_sub_cancel_left]
    exact h1
theorem Rows.one {f : α} {cs : List Value} (h : R f cs) (hl : cs.length = size) : Rows R size [f] cs := by
  refine ⟨by simpa using hl, fun i g hg => ?_⟩
  cases i with
  | zero => simp at hg; subst hg; simpa [List.take_of_length_le (Nat.le_of_eq hl)] using h
  | succ i => simp at hg
theorem Rows.take (h : Rows R size fs xs) (k : Nat) (hk : k ≤ fs.length) : Rows R size (fs.take k) (xs.take (k * size)) := by
  have hle := Nat.mul_le_mul_right size hk
  refine ⟨by rw [List.length_take, List.length_take, h.1, Nat.min_eq_left hle, Nat.min_eq_left hk], fun i f hf => ?_⟩
  rw [List.getElem?_take] at hf
  split at hf
  · rename_i hi
    have h1 := h.2 i f hf
    have h2 : (i + 1) * size ≤ k * size := Nat.mul_le_mul_right _ hi
    rw [Nat.add_mul, Nat.one_mul] at h2
    rw [List.drop_take, List.take_take, Nat.min_eq_left (by omega)]
    exact h1
  · cases hf
theorem Rows.drop (h : Rows R size fs xs) (k : Nat) : Rows R size (fs.drop k) (xs.drop (k * size)) := by
  refine ⟨by rw [List.length_drop, List.length_drop, h.1, Nat.sub_mul], fun i f hf => ?_⟩
  rw [List.getElem?_drop] at hf
  have h1 := h.2 _ f hf
  rw [List.drop_drop, ← Nat.add_mul]
  exact h1
theorem Rows.len (h : Rows R size fs xs) : xs.length = fs.length * size := h.1
end
section
variable {H : Type} {enc : TypeId × Value → H} {P : Program} {w : World} {spare : Nat → Bool} {held : Bool} {base : Nat}
theorem trod_field {t : TypeId} {fs : Array Field} {fuel : Nat} {cs : List Value} {x : DataW H × List MemPlace} (ht : P.underlying t = some (.struct fs)) (h : DataW.trod enc P w base spare held fuel t cs = some x) :
    cs.length = P.cellsOf t ∧ ∀ (i : Nat) (f : Field), fs[i]? = some f → ∃ n y, DataW.trod enc P w base spare held n f.type ((cs.drop f.offset).take (P.cellsOf f.type)) = some y := by
  obtain ⟨ys, n, _, _, hlen, hyl, hf⟩ := DataW.trod_struct ht h
  refine ⟨hlen, fun i f hi => ?_⟩
  have h1 := hf i f hi
  have hi' : i < ys.length := by rw [hyl]; exact (Array.getElem?_eq_some_iff.1 hi).1
  rw [List.getElem?_eq_getElem hi'] at h1
  exact ⟨n, _, h1⟩
theorem trod_len {t : TypeId} {fs : Array Field} {fuel : Nat} {cs : List Value} {x : DataW H × List MemPlace} {m : Nat} (ht : P.underlying t = some (.struct fs)) (h : DataW.trod enc P w base spare held fuel t cs = some x) (hm : P.cellsOf t = m) : cs.length = m := (trod_field ht h).1.trans hm
/-- Field i: m cells from 'off' on. -/
theorem trod_part {t : TypeId} {fs : Array Field} {fuel : Nat} {cs : List Value} {x : DataW H × List MemPlace} (ht : P.underlying t = some (.struct fs)) (h : DataW.trod enc P w base spare held fuel t cs = some x)
    (i ft off m : Nat) (hi : (fs[i]?).map (fun f => (f.type, f.offset)) = some (ft, off)) (hc : P.cellsOf ft = m) : ∃ n y, DataW.trod enc P w base spare held n ft ((cs.drop off).take m) = some y := by
  cases hf : fs[i]? with
  | none => rw [hf] at hi; simp at hi
  | some f =>
    rw [hf] at hi
    simp only [Option.map_some, Option.some.injEq, Prod.mk.injEq] at hi
    obtain ⟨h1, h2⟩ := hi
    obtain ⟨n, y, h3⟩ := (trod_field ht h).2 i f hf
    rw [h1, h2, hc] at h3
    exact ⟨n, y, h3⟩
/-- A field of one cell. -/
theorem trod_one {t : TypeId} {fs : Array Field} {fuel : Nat} {cs : List Value} {x : DataW H × List MemPlace} (ht : P.underlying t = some (.struct fs)) (h : DataW.trod enc P w base spare held fuel t cs = some x)
    (i ft off : Nat) (v : Value) (hi : (fs[i]?).map (fun f => (f.type, f.offset)) = some (ft, off)) (hc : P.cellsOf ft = 1) (hv : cs[off]? = some v) : ∃ n y, DataW.trod enc P w base spare held n ft [v] = some y := by
  obtain ⟨n, y, h1⟩ := trod_part ht h i ft off 1 hi hc
  have hl : off < cs.length := (List.getElem?_eq_some_iff.1 hv).1
  have e : (cs.drop off).take 1 = [v] := by
    rw [List.drop_eq_getElem_cons hl, List.take_succ_cons, List.take_zero]
    rw [List.getElem?_eq_getElem hl] at hv
    injection hv with hv
    rw [hv]
  rw [e] at h1
  exact ⟨n, y, h1⟩
theorem cell_int {t : TypeId} {k : IntKind} {fuel : Nat} {v : Value} {x : DataW H × List MemPlace} (ht : P.underlying t = some (.int k)) (h : DataW.trod enc P w base spare held fuel t [v] = some x) : ∃ z, v = .int k z ∧ (Lit.int k z).wf = true := by
  obtain ⟨z, e, _, hw⟩ := DataW.trod_int ht h
  injection e with e
  exact ⟨z, e, hw⟩
theorem cell_bool {t : TypeId} {fuel : Nat} {v : Value} {x : DataW H × List MemPlace} (ht : P.underlying t = some .bool) (h : DataW.trod enc P w base spare held fuel t [v] = some x) : ∃ b, v = .bool b := by
  obtain ⟨b, e, _⟩ := DataW.trod_bool ht h
  injection e with e
  exact ⟨b, e⟩
theorem cell_string {t : TypeId} {fuel : Nat} {v : Value} {x : DataW H × List MemPlace} (ht : P.underlying t = some .string) (h : DataW.trod enc P w base spare held fuel t [v] = some x) : ∃ s : ByteArray, v = .string s ∧ s.size ≤ maxLen := by
  obtain ⟨s, e, _, hw⟩ := DataW.trod_string ht h
  injection e with e
  exact ⟨s, e, hw⟩
theorem cell_slice {t e : TypeId} {fuel : Nat} {v : Value} {x : DataW H × List MemPlace} (ht : P.underlying t = some (.slice e)) (h : DataW.trod enc P w base spare held fuel t [v] = some x) : ∃ A n c, v = .slice A n c := by
  rcases Deep.open_slice ht h with ⟨h0, _⟩ | ⟨a, len, cap, m, n, D, Pl, hcs, _⟩
  · injection h0 with h0; exact ⟨_, _, _, h0⟩
  · injection hcs with h0; exact ⟨_, _, _, h0⟩
theorem cell_bytes {t e : TypeId} {fuel : Nat} {v : Value} {x : DataW H × List MemPlace} (ht : P.underlying t = some (.slice e)) (he : P.underlying e = some (.int .u8)) (hc : P.cellsOf e = 1)
    (h : DataW.trod enc P w 0 spare held fuel t [v] = some x) : ∃ A n c l, v = .slice A n c ∧ RB w w.heap.size A n c l := by
  obtain ⟨A, n, c, rfl⟩ := cell_slice ht h
  obtain ⟨l, hl⟩ := open_bytes ht he hc h
  exact ⟨A, n, c, l, rfl, hl⟩
theorem open_rows {α : Type} (R : α → List Value → Prop) {t e : TypeId} {size : Nat} (ht : P.underlying t = some (.slice e)) (hC : P.cellsOf e = size) (hs : 0 < size)
    (hR : ∀ n cs y, DataW.trod enc P w base spare held n e cs = some y → ∃ f, R f cs) {A : Option Addr} {n c fuel : Nat} {x : DataW H × List MemPlace} (h : DataW.trod enc P w base spare held fuel t [.slice A n c] = some x) :
    ∃ fs xs, fs.length = n ∧ RV w w.heap.size size A n c xs ∧ Rows R size fs xs := by
  rcases Deep.open_slice ht h with ⟨h0, _⟩ | ⟨a, len, cap, m, nn, D, Pl, hcs, hb, hl, hcap, hm, _, hi⟩
  · injection h0 with h0
    injection h0 with h1 h2 h3
    subst h1 h2 h3
    exact ⟨[], [], rfl, RV.none_, Rows.nil⟩
  · injection hcs with h0
    injection h0 with h1 h2 h3
    subst h1 h2 h3
    have hnm : n ≤ m := by rw [hm]; split <;> omega
    have build : ∀ k, k ≤ n → ∃ fs xs, fs.length = k ∧ Rows R size fs xs ∧ ∀ j u, xs[j]? = some u → w.cell? (a.add j) = some u := by
      intro k
      induction k with
      | zero => exact fun _ => ⟨[], [], rfl, Rows.nil, fun j u hj => by simp at hj⟩
      | succ k ih =>
        intro hk
        obtain ⟨fs, xs, h1, h2, h3⟩ := ih (by omega)
        obtain ⟨cs, hc, ht'⟩ := hi k (by omega)
        obtain ⟨f, hf⟩ := hR _ _ _ ht'
        rw [hC] at hc
        obtain ⟨_, hcl, hat⟩ := World.cells?_some hc
        refine ⟨fs ++ [f], xs ++ cs, by simp [h1], h2.append (Rows.one hf hcl), fun j u hj => ?_⟩
        rcases Nat.lt_or_ge j xs.length with hlt | hge
        · rw [List.getElem?_append_left hlt] at hj
          exact h3 j u hj
        · rw [List.getElem?_append_right hge] at hj
          have hj' : j - xs.length < size := by have := (List.getElem?_eq_some_iff.1 hj).1; omega
          have h4 := hat (j - xs.length) hj'
          rw [Deep.add_add, hj] at h4
          rw [← h4, h2.1, h1]
          congr 2
          rw [h2.1, h1] at hge
          omega
    obtain ⟨fs, xs, h1, h2, h3⟩ := build n (Nat.le_refl _)
    refine ⟨fs, xs, h1, ⟨by rw [h2.1, h1], hl, by simpa [maxLen] using hcap, (fun e => by cases e), fun hn => ?_⟩, h2⟩
    have hx0 : 0 < xs.length := by rw [h2.1, h1]; exact Nat.mul_pos hn hs
    have h0 := h3 0 _ (List.getElem?_eq_getElem hx0)
    obtain ⟨b, off, spot⟩ := a
    have hspot : spot = none := by simpa [Addr.add] using World.cell?_spot h0
    subst hspot
    refine ⟨b, off, rfl, ?_, fun j u hu => ?_⟩
    · have := World.block_lt_of_cell? w _ h0
      simpa [Addr.add_lit] using this
    · have := h3 j u hu
      rwa [Addr.add_lit] at this
end
end Go.Proofs.YtmolmpgampmolaaGreat
/-
  Slices of any structs: read, of the call's own; append.
  Conditions: none.
-/
namespace Go.Proofs.YtmolmpgampmolaaGreat
set_option linter.unusedVariables false
set_option linter.unusedSimpArgs false
open Go.RowKit
theorem own_own_ne {w : World} {base base' e e' size size' n n' : Nat} {v v' : Value} {xs xs' : List Value} (h : w.ownsRow base e size v n xs) (h' : w.ownsRow base' e' size' v' n' xs') (hne : e ≠ e') : v'.ownBlock = none ∨ v'.ownBlock ≠ v.ownBlock := by
  rcases h'.2 with ⟨rfl, _⟩ | ⟨g', cap', cur', rfl, _, hh', _⟩
  · exact .inl rfl
  · right
    intro he
    rcases h.2 with ⟨rfl, _⟩ | ⟨g, cap, cur, rfl, _, hh, _⟩
    · cases he
    · have : g' = g := by simpa [Value.ownBlock] using he
      subst this
      rw [hh] at hh'
      injection hh' with hh'
      injection hh' with _ ht
      exact hne ht
section
variable {α : Type} {R R' : α → List Value → Prop} {w w' : World} {B B' size n c : Nat} {A : Option Addr} {fs : List α}
/-- A slice that is read, its elements by R. -/
def RS (R : α → List Value → Prop) (w : World) (B size : Nat) (A : Option Addr) (n c : Nat) (fs : List α) : Prop := ∃ xs, RV w B size A n c xs ∧ Rows R size fs xs
/-- A slice of the call's own. -/
def OS (R : α → List Value → Prop) (w : World) (base e size : Nat) (A : Option Addr) (n c : Nat) (fs : List α) : Prop := ∃ xs, OV w base e size A n c xs ∧ Rows R size fs xs
theorem RS.len (h : RS R w B size A n c fs) (hs : 0 < size) : fs.length = n := by
  obtain ⟨xs, h1, h2⟩ := h
  have e := h1.len
  rw [h2.len] at e
  exact Nat.eq_of_mul_eq_mul_right hs e
theorem RS.lt (h : RS R w B size A n c fs) : n ≤ 9223372036854775807 := by
  obtain ⟨xs, h1, h2⟩ := h
  exact Nat.le_trans h1.le h1.cap
theorem RS.keep (h : RS R w B size A n c fs) (hk : ∀ p : Addr, p.block < B → w'.cell? p = w.cell? p) (hi : ∀ f cs, R f cs → R' f cs) : RS R' w' B size A n c fs := by
  obtain ⟨xs, h1, h2⟩ := h
  exact ⟨xs, h1.keep hk, h2.imp hi⟩
theorem RS.below (h : RS R w B size A n c fs) (hb : Below B w w') (hi : ∀ f cs, R f cs → R' f cs) : RS R' w' B size A n c fs := h.keep (fun _ hp => hb.cell hp) hi
theorem RS.more (h : RS R w B size A n c fs) (hB : B ≤ B') (hi : ∀ f cs, R f cs → R' f cs) : RS R' w B' size A n c fs := by
  obtain ⟨xs, h1, h2⟩ := h
  exact ⟨xs, h1.more hB, h2.imp hi⟩
theorem RS.imp (h : RS R w B size A n c fs) (hi : ∀ f cs, R f cs → R' f cs) : RS R' w B size A n c fs := by
  obtain ⟨xs, h1, h2⟩ := h
  exact ⟨xs, h1, h2.imp hi⟩
theorem RS.at_ (h : RS R w B size A n c fs) (hs : 0 < size) {i : Nat} {f : α} (hf : fs[i]? = some f) : ∃ b o cs, A = some ⟨b, o, none⟩ ∧ b < B ∧ R f cs ∧ ∀ j u, j < size → cs[j]? = some u → w.cell? ⟨b, o + i * size + j, none⟩ = some u := by
  have hl := h.len hs
  have hi : i < n := by rw [← hl]; exact (List.getElem?_eq_some_iff.1 hf).1
  obtain ⟨xs, h1, h2⟩ := h
  obtain ⟨b, o, rfl, hb, hc⟩ := h1.at_ (by omega)
  refine ⟨b, o, _, rfl, hb, h2.2 i f hf, fun j u hj hu => ?_⟩
  rw [List.getElem?_take, if_pos hj, List.getElem?_drop] at hu
  rw [Nat.add_assoc]
  exact hc _ u hu
theorem RS.none_ : RS R w B size none 0 0 [] := ⟨[], RV.none_, Rows.nil⟩
theorem OS.none_ (w : World) (base e size : Nat) : OS R w base e size none 0 0 [] := ⟨[], OV.none_ _ _ _ _, Rows.nil⟩
theorem OS.rs {base e : Nat} (h : OS R w base e size A n c fs) : RS R w w.heap.size size A n c fs := by
  obtain ⟨xs, h1, h2⟩ := h
  exact ⟨xs, h1.rv, h2⟩
theorem OS.below {base e : Nat} (h : OS R w base e size A n c fs) (hb : Below w.heap.size w w') (hi : ∀ f cs, R f cs → R' f cs) : OS R' w' base e size A n c fs := by
  obtain ⟨xs, h1, h2⟩ := h
  exact ⟨xs, h1.below hb, h2.imp hi⟩
theorem OS.more {base base' e : Nat} (h : OS R w base e size A n c fs) (hb : base' ≤ base) (hi : ∀ f cs, R f cs → R' f cs) : OS R' w base' e size A n c fs := by
  obtain ⟨xs, h1, h2⟩ := h
  exact ⟨xs, h1.more hb, h2.imp hi⟩
theorem OS.kept {base e : Nat} {row : Option Nat} (h : OS R w base e size A n c fs) (hg : w.grownBy w' row) (hne : (Value.slice A n c).ownBlock = none ∨ (Value.slice A n c).ownBlock ≠ row) (hi : ∀ f cs, R f cs → R' f cs) : OS R' w' base e size A n c fs := by
  obtain ⟨xs, h1, h2⟩ := h
  exact ⟨xs, h1.kept hg hne, h2.imp hi⟩
theorem OS.imp {base e : Nat} (h : OS R w base e size A n c fs) (hi : ∀ f cs, R f cs → R' f cs) : OS R' w base e size A n c fs := by
  obtain ⟨xs, h1, h2⟩ := h
  exact ⟨xs, h1, h2.imp hi⟩
theorem OS.len {base e : Nat} (h : OS R w base e size A n c fs) (hs : 0 < size) : fs.length = n := h.rs.len hs
end
section
variable {α : Type} {P : Program} {T E size bytes : Nat} {z : Value}
/-- 'append(x, f)', f laid in a block of its own. -/
theorem wpList_apps (ht : ET P T E size bytes z) (R : World → α → List Value → Prop) {w : World} {ops : Array Oper} {rest : List Oper} {o : Oper} {a : Act} {Q : Exit → Act → World → Prop} (hgd : o.guard = none) (s x : Operand)
    (ho : o.op = .call { callee := .builtin .append, args := #[s, x], argTypes := #[T, T] })
    {A : Option Addr} {n c : Nat} (hs : a.eval s = .slice A n c) {g : Nat} (hx : a.eval x = .slice (some ⟨g, 0, none⟩) 1 1) (hgw : g = w.heap.size)
    (base : Nat) {l : List α} (hown : OS (R w) w base E size A n c l) (f : α) {cs : List Value} (hf : R w f cs) (hl : cs.length = size) (h1 : ∀ u ∈ cs, u.oneCell' = true)
    (hbytes : (n + 1) * bytes ≤ 140737488355328) (h63 : n + 1 ≤ 9223372036854775807) (hbase : base ≤ w.heap.size)
    (hR : ∀ w1 A1 n1 c1 xs, OV w base E size A1 n1 c1 xs → w.grownBy w1 (Value.slice A1 n1 c1).ownBlock → ∀ f cs, R w f cs → R w1 f cs)
    (h : ∀ A1 c1 w1, OS (R w1) w1 base E size A1 (n + 1) c1 (l ++ [f]) → Below base w w1 → w.grownBy w1 (Value.slice A n c).ownBlock →
      ((Value.slice A1 (n + 1) c1).ownBlock = (Value.slice A n c).ownBlock ∨ (Value.slice A1 (n + 1) c1).ownBlock = some (w.heap.size + 1)) → wpList P ops Q rest (a.put o.dst (.slice A1 (n + 1) c1)) w1) :
    wpList P ops Q (o :: rest) a (w.alloc (.cells cs.toArray E)) := by
  subst hgw
  obtain ⟨xs, k1, k2⟩ := hown
  have hnew := (OV.new (base := base) (e := E) (size := size) w cs 1 (by omega) (by omega) hbase).rv
  refine wpList_app ht hgd s x ho hs hx base (k1.alloc _) hnew h1 hbytes h63 (by simp; omega) fun A1 c1 w1 j1 j2 j3 => ?_
  have hg : w.grownBy w1 (Value.slice A n c).ownBlock := World.grownBy.trans (World.grownBy_alloc w _ _) j2
  have hi := hR w1 A n c xs k1 hg
  exact h A1 c1 w1 ⟨_, j1, Rows.append (k2.imp hi) (Rows.one (hi _ _ hf) hl)⟩ (grown_below hg k1.lt hbase) hg (by simpa using j3)
/-- The same, wherever the new cells lie. -/
theorem wpList_apps2 (ht : ET P T E size bytes z) (R : World → α → List Value → Prop) {w : World} {ops : Array Oper} {rest : List Oper} {o : Oper} {a : Act} {Q : Exit → Act → World → Prop} (hgd : o.guard = none) (s x : Operand)
    (ho : o.op = .call { callee := .builtin .append, args := #[s, x], argTypes := #[T, T] })
    {A : Option Addr} {n c : Nat} (hs : a.eval s = .slice A n c) {A' : Option Addr} {c' : Nat} (hx : a.eval x = .slice A' 1 c')
    (base : Nat) {l : List α} (hown : OS (R w) w base E size A n c l) (f : α) {cs : List Value} {B : Nat} (hr : RV w B size A' 1 c' cs) (hf : R w f cs) (h1 : ∀ u ∈ cs, u.oneCell' = true)
    (hbytes : (n + 1) * bytes ≤ 140737488355328) (h63 : n + 1 ≤ 9223372036854775807) (hbase : base ≤ w.heap.size)
    (hR : ∀ w1 A1 n1 c1 xs, OV w base E size A1 n1 c1 xs → w.grownBy w1 (Value.slice A1 n1 c1).ownBlock → ∀ f cs, R w f cs → R w1 f cs)
    (h : ∀ A1 c1 w1, OS (R w1) w1 base E size A1 (n + 1) c1 (l ++ [f]) → Below base w w1 → w.grownBy w1 (Value.slice A n c).ownBlock →
      ((Value.slice A1 (n + 1) c1).ownBlock = (Value.slice A n c).ownBlock ∨ (Value.slice A1 (n + 1) c1).ownBlock = some w.heap.size) → wpList P ops Q rest (a.put o.dst (.slice A1 (n + 1) c1)) w1) :
    wpList P ops Q (o :: rest) a w := by
  obtain ⟨xs, k1, k2⟩ := hown
  refine wpList_app ht hgd s x ho hs hx base k1 hr h1 hbytes h63 hbase fun A1 c1 w1 j1 j2 j3 => ?_
  have hi := hR w1 A n c xs k1 j2
  exact h A1 c1 w1 ⟨_, j1, Rows.append (k2.imp hi) (Rows.one (hi _ _ hf) (by have := hr.len; omega))⟩ (grown_below j2 k1.lt hbase) j2 j3
theorem RV.new (w : World) (e : TypeId) {cs : List Value} (hl : cs.length = size) : RV (w.alloc (.cells cs.toArray e)) (w.heap.size + 1) size (some ⟨w.heap.size, 0, none⟩) 1 1 cs := by
  refine (OV.new (base := 0) (e := e) (size := size) w cs 1 (by omega) (by omega) (Nat.zero_le _)).rv.more (by simp)
theorem RV.lit (w : World) (e m : Nat) {cs : List Value} (hl : cs.length = m * size) (hm : m ≤ 9223372036854775807) : RV (w.alloc (.cells cs.toArray e)) (w.heap.size + 1) size (some ⟨w.heap.size, 0, none⟩) m m cs := by
  refine (OV.new (base := 0) (e := e) (size := size) w cs m (by omega) hm (Nat.zero_le _)).rv.more (by simp)
end
end Go.Proofs.YtmolmpgampmolaaGreat
/-
  Walks: the kinds of signs of package lex and of its reference; head.
  Conditions: none.
-/
namespace Go.Proofs.YtmolmpgampmolaaGreat
set_option linter.unusedVariables false
set_option linter.unusedSimpArgs false
open Go.RowKit
namespace Lx
def rL (x : Nat) : Bool := decide (97 ≤ x ∧ x ≤ 122)
def rD (x : Nat) : Bool := decide (48 ≤ x ∧ x ≤ 57)
def rH (x : Nat) : Bool := rD x || decide (97 ≤ x ∧ x ≤ 102)
def rW (x : Nat) : Bool := rL x || rD x || x == 95
def rB (x : Nat) : Bool := x == 32 || x == 9 || x == 10 || x == 13
def rN (x : Nat) : Bool := x != 10
theorem byte_beq (c d : UInt8) : (c == d) = (c.toNat == d.toNat) := by
  rw [Bool.eq_iff_iff, beq_iff_eq, beq_iff_eq, UInt8.toNat_inj]
theorem isL_r (c : UInt8) : isL c = rL c.toNat := rfl
theorem isD_r (c : UInt8) : Ty.isD c = rD c.toNat := rfl
theorem isH_r (c : UInt8) : isH c = rH c.toNat := rfl
theorem inW_r (c : UInt8) : inW c = rW c.toNat := by unfold inW rW; rw [byte_beq]; rfl
theorem blank_r (c : UInt8) : blank c = rB c.toNat := by unfold blank rB; rw [byte_beq, byte_beq, byte_beq, byte_beq]; rfl
theorem line_r (c : UInt8) : line c = rN c.toNat := by unfold line rN; rw [bne, byte_beq]; rfl
end Lx
theorem rune_letter (x : Nat) (w : World) (hx : x ≤ 1114111) : Calls Tryz.prog 87 #[.int .i32 (x : Int)] w fun e w' => e = .returned (.bool (Lx.rL x)) ∧ w' = w := by
  by_cases h1 : 97 ≤ x
  all_goals
    go_enter Tryz.func87, Tryz.ntmps87
    go_wp2_with fail
    go_ret
    exact ⟨ret_bool (by rw [Bool.eq_iff_iff]; simp [Lx.rL] <;> omega), rfl⟩
theorem rune_digit (x : Nat) (w : World) (hx : x ≤ 1114111) : Calls Tryz.prog 92 #[.int .i32 (x : Int)] w fun e w' => e = .returned (.bool (Lx.rD x)) ∧ w' = w := by
  by_cases h1 : 48 ≤ x
  all_goals
    go_enter Tryz.func92, Tryz.ntmps92
    go_wp2_with fail
    go_ret
    exact ⟨ret_bool (by rw [Bool.eq_iff_iff]; simp [Lx.rD] <;> omega), rfl⟩
theorem rune_hex (x : Nat) (w : World) (hx : x ≤ 1114111) : Calls Tryz.prog 90 #[.int .i32 (x : Int)] w fun e w' => e = .returned (.bool (Lx.rH x)) ∧ w' = w := by
  have D := rune_digit x w hx
  generalize hd : Lx.rD x = d at *
  replace D := Lib.hid D
  have HD := Lib.hid hd; clear hd
  by_cases h1 : 97 ≤ x <;> cases d
  all_goals
    go_enter Tryz.func90, Tryz.ntmps90
    go_wp2_with fail
    refine (D.out).mono ?_
    rintro e _ ⟨rfl, rfl⟩
    go_wp2_with fail
    go_ret
    exact ⟨ret_bool (by rw [Bool.eq_iff_iff]; simp [Lx.rH, HD.out] <;> omega), rfl⟩
theorem rune_inner (x : Nat) (w : World) (hx : x ≤ 1114111) : Calls Tryz.prog 88 #[.int .i32 (x : Int)] w fun e w' => e = .returned (.bool (Lx.rW x)) ∧ w' = w := by
  have L := rune_letter x w hx
  have D := rune_digit x w hx
  generalize hd : Lx.rD x = d at *
  generalize hl : Lx.rL x = l at *
  replace D := Lib.hid D; replace L := Lib.hid L
  have HD := Lib.hid hd; clear hd
  have HL := Lib.hid hl; clear hl
  cases l
  · cases d
    all_goals
      go_enter Tryz.func88, Tryz.ntmps88
      go_wp2_with fail
      refine (L.out).mono ?_
      rintro e _ ⟨rfl, rfl⟩
      go_wp2_with fail
      refine (D.out).mono ?_
      rintro e _ ⟨rfl, rfl⟩
      go_wp2_with fail
      go_ret
      exact ⟨ret_bool (by rw [Bool.eq_iff_iff]; simp [Lx.rW, HD.out, HL.out] <;> omega), rfl⟩
  · go_enter Tryz.func88, Tryz.ntmps88
    go_wp2_with fail
    refine (L.out).mono ?_
    rintro e _ ⟨rfl, rfl⟩
    go_wp2_with fail
    go_ret
    exact ⟨ret_bool (by simp [Lx.rW, HL.out]), rfl⟩
theorem lblank_any (x : Nat) (w : World) (hx : x ≤ 1114111) : Calls Tryz.prog 85 #[.int .i32 (x : Int)] w fun e w' => e = .returned (.bool (Lx.rB x)) ∧ w' = w := by
  by_cases h1 : x = 32
  · subst h1
    go_enter Tryz.func85, Tryz.ntmps85
    go_wp2_with fail
    go_ret
    exact ⟨rfl, rfl⟩
  by_cases h2 : x = 9
  · subst h2
    go_enter Tryz.func85, Tryz.ntmps85
    go_wp2_with fail
    go_ret
    exact ⟨rfl, rfl⟩
  by_cases h3 : x = 10
  · subst h3
    go_enter Tryz.func85, Tryz.ntmps85
    go_wp2_with fail
    go_ret
    exact ⟨rfl, rfl⟩
  · have e1 : ((x : Int) == 32) = false := by rw [beq_eq_false_iff_ne]; omega
    have e2 : ((x : Int) == 9) = false := by rw [beq_eq_false_iff_ne]; omega
    have e3 : ((x : Int) == 10) = false := by rw [beq_eq_false_iff_ne]; omega
    go_enter Tryz.func85, Tryz.ntmps85
    go_wp2_with fail
    go_ret
    exact ⟨ret_bool (by rw [Bool.eq_iff_iff]; simp [Lx.rB, h1, h2, h3] <;> omega), rfl⟩
theorem inline_any (x : Nat) (w : World) (hx : x ≤ 1114111) : Calls Tryz.prog 86 #[.int .i32 (x : Int)] w fun e w' => e = .returned (.bool (Lx.rN x)) ∧ w' = w := by
  go_enter Tryz.func86, Tryz.ntmps86
  go_wp2_with fail
  go_ret
  exact ⟨ret_bool (by rw [Bool.eq_iff_iff]; simp [Lx.rN] <;> omega), rfl⟩
end Go.Proofs.YtmolmpgampmolaaGreat
/-
  Walk: head of package lex, over any of its kinds of signs.
  Conditions: none.
-/
namespace Go.Proofs.YtmolmpgampmolaaGreat
set_option linter.unusedVariables false
set_option linter.unusedSimpArgs false
open Go.RowKit
theorem T_get0 (s : List UInt8) (i : Nat) : (T s).get! i = s.getD i 0 := by
  show s.toArray[i]! = _
  rw [List.getD_eq_getElem?_getD]
  by_cases h : i < s.length
  · rw [getElem!_pos s.toArray i (by simpa using h), List.getElem?_eq_getElem h]; simp
  · rw [getElem!_neg s.toArray i (by simpa using h), List.getElem?_eq_none (by omega)]; rfl
theorem dec_at (s : List UInt8) (k : Nat) (hk : k < s.length) :
    ((s.getD k 0).toNat < 128 ∧ Utf8.decode (T s) k = ((s.getD k 0).toNat, 1)) ∨
    (128 ≤ (s.getD k 0).toNat ∧ 128 ≤ (Utf8.decode (T s) k).1 ∧ (Utf8.decode (T s) k).1 ≤ 1114111 ∧ 1 ≤ (Utf8.decode (T s) k).2 ∧ k + (Utf8.decode (T s) k).2 ≤ s.length ∧ ∀ j, k ≤ j → j < k + (Utf8.decode (T s) k).2 → 128 ≤ (s.getD j 0).toNat) := by
  have hle := Lib.rune_le (T s) k
  rw [Lib.decode_at, T_size, T_get0, T_get0, T_get0, T_get0] at *
  by_cases h : (s.getD k 0).toNat < 128
  · left
    exact ⟨h, by rw [Lib.decodeN, if_pos h]⟩
  · right
    refine ⟨by omega, ?_⟩
    rcases Lib.decodeN_shape (s.length - k) (s.getD k 0).toNat (s.getD (k + 1) 0).toNat (s.getD (k + 2) 0).toNat (s.getD (k + 3) 0).toNat with ⟨h1, _⟩ | ⟨h1, h2, h3, h4, e⟩ | ⟨h1, h2, h3, h4, h5, h6, e⟩ | ⟨h1, h2, h3, h4, h5, h6, h7, e⟩ | e
    · exact absurd h1 h
    all_goals
      rw [e] at hle ⊢
      dsimp only at hle ⊢
      refine ⟨by omega, by omega, by omega, by omega, fun j hj1 hj2 => ?_⟩
      rcases (show j = k ∨ j = k + 1 ∨ j = k + 2 ∨ j = k + 3 by omega) with rfl | rfl | rfl | rfl <;> omega
theorem tw_cut {p : UInt8 → Bool} : ∀ {s : List UInt8} {k : Nat}, (s.take k).all p = true → k < s.length → p (s.getD k 0) = false → s.takeWhile p = s.take k
  | [], k, _, hk, _ => absurd hk (by simp)
  | c :: r, 0, _, _, hp => by
    rw [List.takeWhile_cons, if_neg (by rw [show p c = false from hp]; decide)]
    rfl
  | c :: r, k + 1, h, hk, hp => by
    rw [List.take_succ_cons, List.all_cons, Bool.and_eq_true] at h
    rw [List.takeWhile_cons, if_pos h.1, List.take_succ_cons, tw_cut h.2 (by simpa using hk) hp]
theorem tw_all {p : UInt8 → Bool} : ∀ {s : List UInt8}, s.all p = true → s.takeWhile p = s
  | [], _ => rfl
  | c :: r, h => by
    rw [List.all_cons, Bool.and_eq_true] at h
    rw [List.takeWhile_cons, if_pos h.1, tw_all h.2]
theorem all_more {p : UInt8 → Bool} {s : List UInt8} {k m : Nat} (h : (s.take k).all p = true) (hj : ∀ j, k ≤ j → j < k + m → p (s.getD j 0) = true) (hm : k + m ≤ s.length) : (s.take (k + m)).all p = true := by
  induction m with
  | zero => exact h
  | succ m ih =>
    have h1 := ih (fun j a b => hj j a (by omega)) (by omega)
    have h2 := hj (k + m) (by omega) (by omega)
    rw [← Nat.add_assoc, List.take_succ_eq_append_getElem (show k + m < s.length by omega), List.all_append, h1]
    rw [List.getD_eq_getElem?_getD, List.getElem?_eq_getElem (show k + m < s.length by omega)] at h2
    simpa using h2
set_option maxRecDepth 100000 in
set_option maxHeartbeats 2000000 in
theorem head_walk (g : Nat) (r : Nat → Bool) (hi : Bool) (hhi : ∀ x, 128 ≤ x → r x = hi) (eg : ∀ args w, (callFunc g args).run Tryz.prog w = .ok (.enter g args) w)
    (C : ∀ (x : Nat) (w : World), x ≤ 1114111 → Calls Tryz.prog g #[.int .i32 (x : Int)] w fun e w' => e = .returned (.bool (r x)) ∧ w' = w) (s : List UInt8) (w : World) (hs : s.length ≤ 1000000) :
    Calls Tryz.prog 84 #[.string (T s), .func (.func g) #[] #[]] w fun e w' => e = .returned (.string (T (s.takeWhile fun c => r c.toNat))) ∧ Below w.heap.size w w' := by
  have hT := T_size s
  have C' := Lib.hid C; clear C
  have HHI := Lib.hid hhi; clear hhi
  go_enter Tryz.func84, Tryz.ntmps84
  go_wp2_with fail
  go_loopw [5] (fun _ wr => ∃ pos : Nat, pos ≤ s.length ∧ wr = w.iter (T s) pos ∧ Hid ((s.take pos).all (fun c => r c.toNat) = true)) (fun _ wr => s.length - wr.iterPos w.heap.size)
  case atStart => exact ⟨0, by omega, rfl, Lib.hid rfl⟩
  case round =>
    obtain ⟨pos, hpos, rfl, hall⟩ := hrel
    have hbl := alloc_one w (.stringIter (T s) pos)
    by_cases hlt : pos < s.length
    · have hd := dec_at s pos hlt
      have hnx : ∀ ty, (Instr.next (.pointer (some ⟨w.heap.size, 0, none⟩)) true ty).run Tryz.prog (w.iter (T s) pos) = _ := fun ty => run_next_any w (T s) pos ty (by rw [T_size]; exact hlt)
      obtain ⟨R, hR⟩ : ∃ R, (Utf8.decode (T s) pos).1 = R := ⟨_, rfl⟩
      obtain ⟨K, hK⟩ : ∃ K, (Utf8.decode (T s) pos).2 = K := ⟨_, rfl⟩
      rw [hR, hK] at hnx hd
      have hfacts : R ≤ 1114111 ∧ 1 ≤ K ∧ pos + K ≤ s.length ∧ (∀ j, pos ≤ j → j < pos + K → r (s.getD j 0).toNat = r R) := by
        rcases hd with ⟨h1, h2⟩ | ⟨h1, h2, h3, h4, h5, h6⟩
        · rw [h2] at hR hK
          dsimp only at hR hK
          subst hR hK
          refine ⟨by omega, by omega, by omega, fun j a b => ?_⟩
          obtain rfl : j = pos := by omega
          rfl
        · exact ⟨h3, h4, h5, fun j a b => by rw [HHI.out _ h2, HHI.out _ (h6 j a b)]⟩
      clear hd hR hK
      obtain ⟨f1, f2, f3, f4⟩ := hfacts
      have HF := Lib.hid f4; clear f4
      have CR := C'.out R (w.iter (T s) (pos + K)) f1
      generalize hr : r R = x at *
      replace CR := Lib.hid CR
      cases x with
      | true =>
        have H2 := Lib.hid (all_more hall.out (fun j a b => HF.out j a b) f3)
        clear hr
        go_wp2_with fail
        refine (CR.out).mono ?_
        rintro e _ ⟨rfl, rfl⟩
        go_wp2_with fail
        go_roundw
        case rel => exact ⟨pos + K, f3, rfl, H2⟩
        case measure => simp <;> omega
      | false =>
        have H2 := Lib.hid (tw_cut hall.out hlt (HF.out pos (Nat.le_refl _) (by omega)))
        have hcut := fun w => run_T_head s .i64 pos pos rfl hpos w
        have hb2 := alloc_one w (.stringIter (T s) (pos + K))
        clear hr
        go_wp2_with fail
        refine (CR.out).mono ?_
        rintro e _ ⟨rfl, rfl⟩
        go_wp2_with fail
        go_ret
        exact ⟨by rw [H2.out]; rfl, hb2⟩
    · obtain rfl : pos = s.length := by omega
      have hnx : ∀ ty, (Instr.next (.pointer (some ⟨w.heap.size, 0, none⟩)) true ty).run Tryz.prog (w.iter (T s) s.length) = _ := fun ty => run_next_end w (T s) s.length ty (by rw [T_size]; omega)
      have H2 := Lib.hid (tw_all (s := s) (p := fun c => r c.toNat) (by have := hall.out; rwa [List.take_length] at this))
      go_wp2_with fail
      go_ret
      exact ⟨by rw [H2.out]; rfl, hbl⟩
theorem head_blank (s : List UInt8) (w : World) (hs : s.length ≤ 1000000) :
    Calls Tryz.prog 84 #[.string (T s), .func (.func 85) #[] #[]] w fun e w' => e = .returned (.string (T (s.takeWhile Lx.blank))) ∧ Below w.heap.size w w' := by
  have e : Lx.blank = fun c => Lx.rB c.toNat := funext Lx.blank_r
  rw [e]
  exact head_walk _ Lx.rB false (fun x hx => by rw [Bool.eq_iff_iff]; simp [Lx.rB, Lx.rL, Lx.rD] <;> omega) (fun _ _ => by kernel_rfl) lblank_any s w hs
theorem head_inline (s : List UInt8) (w : World) (hs : s.length ≤ 1000000) :
    Calls Tryz.prog 84 #[.string (T s), .func (.func 86) #[] #[]] w fun e w' => e = .returned (.string (T (s.takeWhile Lx.line))) ∧ Below w.heap.size w w' := by
  have e : Lx.line = fun c => Lx.rN c.toNat := funext Lx.line_r
  rw [e]
  exact head_walk _ Lx.rN true (fun x hx => by rw [Bool.eq_iff_iff]; simp [Lx.rN, Lx.rL, Lx.rD] <;> omega) (fun _ _ => by kernel_rfl) inline_any s w hs
theorem head_inner (s : List UInt8) (w : World) (hs : s.length ≤ 1000000) :
    Calls Tryz.prog 84 #[.string (T s), .func (.func 88) #[] #[]] w fun e w' => e = .returned (.string (T (s.takeWhile Lx.inW))) ∧ Below w.heap.size w w' := by
  have e : Lx.inW = fun c => Lx.rW c.toNat := funext Lx.inW_r
  rw [e]
  exact head_walk _ Lx.rW false (fun x hx => by rw [Bool.eq_iff_iff]; simp [Lx.rW, Lx.rL, Lx.rD] <;> omega) (fun _ _ => by kernel_rfl) rune_inner s w hs
theorem head_hex (s : List UInt8) (w : World) (hs : s.length ≤ 1000000) :
    Calls Tryz.prog 84 #[.string (T s), .func (.func 90) #[] #[]] w fun e w' => e = .returned (.string (T (s.takeWhile Lx.isH))) ∧ Below w.heap.size w w' := by
  have e : Lx.isH = fun c => Lx.rH c.toNat := funext Lx.isH_r
  rw [e]
  exact head_walk _ Lx.rH false (fun x hx => by rw [Bool.eq_iff_iff]; simp [Lx.rH, Lx.rL, Lx.rD] <;> omega) (fun _ _ => by kernel_rfl) rune_hex s w hs
theorem head_digit (s : List UInt8) (w : World) (hs : s.length ≤ 1000000) :
    Calls Tryz.prog 84 #[.string (T s), .func (.func 92) #[] #[]] w fun e w' => e = .returned (.string (T (s.takeWhile Ty.isD))) ∧ Below w.heap.size w w' := by
  have e : Ty.isD = fun c => Lx.rD c.toNat := funext Lx.isD_r
  rw [e]
  exact head_walk _ Lx.rD false (fun x hx => by rw [Bool.eq_iff_iff]; simp [Lx.rD, Lx.rL, Lx.rD] <;> omega) (fun _ _ => by kernel_rfl) rune_digit s w hs
end Go.Proofs.YtmolmpgampmolaaGreat
/-
  Walks: pass, begins, quoted of package lex.
  Conditions: none.
-/
namespace Go.Proofs.YtmolmpgampmolaaGreat
set_option linter.unusedVariables false
set_option linter.unusedSimpArgs false
open Go.RowKit
def strLen : Value → Nat
  | .string b => b.size
  | _ => 0
theorem drop_tw (p : UInt8 → Bool) : ∀ l : List UInt8, l.drop (l.takeWhile p).length = l.dropWhile p
  | [] => rfl
  | c :: r => by
    rw [List.takeWhile_cons, List.dropWhile_cons]
    split
    · rw [List.length_cons, List.drop_succ_cons, drop_tw p r]
    · rfl
theorem tw_len (p : UInt8 → Bool) (l : List UInt8) : (l.takeWhile p).length ≤ l.length := (List.takeWhile_prefix p).length_le
theorem dw_len (p : UInt8 → Bool) (l : List UInt8) : (l.dropWhile p).length ≤ l.length := (List.dropWhile_suffix p).length_le
theorem dw_head {p : UInt8 → Bool} : ∀ {l : List UInt8} {c : UInt8} {r : List UInt8}, l.dropWhile p = c :: r → p c = false
  | [], _, _, h => by cases h
  | a :: l, c, r, h => by
    rw [List.dropWhile_cons] at h
    split at h
    · exact dw_head h
    · rename_i hp
      cases h
      simpa using hp
theorem byte_ne {c d : UInt8} {k : Int} (h : c ≠ d) (hk : (d.toNat : Int) = k) : ((c.toNat : Int) == k) = false := by
  rw [beq_eq_false_iff_ne]
  intro e
  exact h (UInt8.toNat_inj.1 (by omega))
theorem byte_neq {c d : UInt8} {k : Int} (h : c ≠ d) (hk : (d.toNat : Int) = k) : ((c.toNat : Int) != k) = true := by
  rw [bne_iff_ne]
  intro e
  exact h (UInt8.toNat_inj.1 (by omega))
set_option maxRecDepth 100000 in
set_option maxHeartbeats 2000000 in
theorem pass_any (s : List UInt8) (w : World) (hs : s.length ≤ 1000000) :
    Calls Tryz.prog 42 #[.string (T s)] w fun e w' => e = .returned (.string (T (Lx.skip false s))) ∧ Below w.heap.size w w' := by
  go_enter Tryz.func42, Tryz.ntmps42
  go_wp2_with fail
  go_loopw [0] (fun v wr => ∃ l : List UInt8, v = .string (T l) ∧ l.length ≤ s.length ∧ Hid (Lx.skip false l = Lx.skip false s) ∧ Below w.heap.size w wr) (fun v _ => strLen v)
  case atStart => exact ⟨s, rfl, Nat.le_refl _, Lib.hid rfl, Below.refl _ _⟩
  case round =>
    obtain ⟨l, rfl, hl, hsk, hbel⟩ := hrel
    have hT := T_size l
    have H1 := Lib.hid (head_blank l wr (by omega))
    have hb := Lx.skip_blanks l
    have hcut := fun w => run_T_rest l .i64 ((l.takeWhile Lx.blank).length : Int) (l.takeWhile Lx.blank).length rfl (tw_len _ _) w
    rw [drop_tw] at hcut
    have hdl := dw_len Lx.blank l
    have hT2 := T_size (l.takeWhile Lx.blank)
    generalize hdw : l.dropWhile Lx.blank = l1 at *
    generalize hw1 : l.takeWhile Lx.blank = w1 at *
    have HB := Lib.hid hb; clear hb
    have HD := Lib.hid hdw; clear hdw hw1
    cases l1 with
    | nil =>
      have hsn : Lx.skip false ([] : List UInt8) = [] := rfl
      have HR := Lib.hid (hsk.out.symm.trans HB.out)
      have h0 : T [] = (⟨#[]⟩ : ByteArray) := rfl
      clear hsn
      go_wp2_with fail
      refine (H1.out).mono ?_
      rintro e wa ⟨rfl, b1⟩
      have d1 := below_step hbel b1 (Nat.le_refl _)
      go_wp2_with fail
      go_ret
      exact ⟨by rw [HR.out]; rfl, d1⟩
    | cons c r =>
      have hbc := dw_head HD.out
      have hat := fun w => run_T_at (c :: r) .i64 0 0 rfl (by simp) w
      rw [show (c :: r).getD 0 0 = c from rfl] at hat
      have htl := T_toList (c :: r)
      have hne : ((c :: r : List UInt8) == []) = false := rfl
      by_cases hc : c = 33
      · subst hc
        have H2 := Lib.hid (fun w => head_inline (33 :: r) w (by omega))
        have h2 := Lx.skip_line (33 :: r)
        have hlen : ((33 :: r).dropWhile Lx.line).length < (33 :: r : List UInt8).length := by
          rw [List.dropWhile_cons, if_pos (by decide)]
          have := dw_len Lx.line r
          simp only [List.length_cons]
          omega
        have hcut2 := fun w => run_T_rest (33 :: r) .i64 (((33 :: r).takeWhile Lx.line).length : Int) ((33 :: r).takeWhile Lx.line).length rfl (tw_len _ _) w
        rw [drop_tw] at hcut2
        have hT3 := T_size ((33 :: r).takeWhile Lx.line)
        have hT4 := T_size ((33 :: r).dropWhile Lx.line)
        have HR : Hid (Lx.skip false ((33 :: r).dropWhile Lx.line) = Lx.skip false s) := Lib.hid (by
          rw [← h2, ← Lx.skip_bang, ← HB.out]
          exact hsk.out)
        clear h2 hbc
        generalize (33 :: r : List UInt8).dropWhile Lx.line = l2 at *
        generalize (33 :: r : List UInt8).takeWhile Lx.line = w2 at *
        generalize (33 :: r : List UInt8) = l1 at *
        go_wp2_with fail
        refine (H1.out).mono ?_
        rintro e wa ⟨rfl, b1⟩
        have d1 := below_step hbel b1 (Nat.le_refl _)
        go_wp2_with fail
        refine (H2.out _).mono ?_
        rintro e wb ⟨rfl, b2⟩
        have d2 := below_step d1 b2 (Nat.le_refl _)
        go_wp2_with fail
        go_roundw
        case rel => exact ⟨l2, rfl, by omega, HR, d2⟩
        case measure => simp [strLen] <;> omega
      · have hc1 := byte_neq (k := 33) hc rfl
        have hst := Lx.skip_stop (r := r) hbc hc
        have HR := Lib.hid (hst.symm.trans (HB.out.symm.trans hsk.out))
        clear hst hbc hc
        generalize (c :: r : List UInt8) = l1 at *
        go_wp2_with fail
        refine (H1.out).mono ?_
        rintro e wa ⟨rfl, b1⟩
        have d1 := below_step hbel b1 (Nat.le_refl _)
        go_wp2_with fail
        go_ret
        exact ⟨by rw [← HR.out]; rfl, d1⟩
/-- A text begins with one sign, and one of a kind behind it. -/
theorem begins_any (g : Nat) (r : Nat → Bool) (eg : ∀ args w, (callFunc g args).run Tryz.prog w = .ok (.enter g args) w)
    (C : ∀ (x : Nat) (w : World), x ≤ 1114111 → Calls Tryz.prog g #[.int .i32 (x : Int)] w fun e w' => e = .returned (.bool (r x)) ∧ w' = w) (s t : List UInt8) (w : World) (hs : s.length ≤ 1000000) (ht : t.length ≤ 10) :
    Calls Tryz.prog 89 #[.string (T s), .string (T t), .func (.func g) #[] #[]] w fun e w' => e = .returned (.bool (s.take t.length == t && Lx.fst (fun c => r c.toNat) (s.drop t.length))) ∧ w' = w := by
  have hT := T_size s
  have hT2 := T_size t
  have C' := Lib.hid C; clear C
  by_cases hlt : t.length < s.length
  · have hcut := fun w => run_T_head s .i64 t.length t.length rfl (by omega) w
    have hat := fun w => run_T_at s .i64 t.length t.length rfl hlt w
    have hl1 := T_toList (s.take t.length)
    have hl2 := T_toList t
    have hd : s.drop t.length = s.getD t.length 0 :: s.drop (t.length + 1) := by
      rw [List.drop_eq_getElem_cons hlt, List.getD_eq_getElem?_getD, List.getElem?_eq_getElem hlt]
      rfl
    rw [hd]
    have hf : Lx.fst (fun c => r c.toNat) (s.getD t.length 0 :: s.drop (t.length + 1)) = r (s.getD t.length 0).toNat := rfl
    rw [hf]
    have hb := byte_lt (s.getD t.length 0)
    generalize hx : (s.take t.length == t) = x at *
    have CR := C'.out (s.getD t.length 0).toNat w (by omega)
    generalize s.getD t.length 0 = c at *
    generalize r c.toNat = y at *
    replace CR := Lib.hid CR
    have HD := Lib.hid hd; clear hd hf
    cases x with
    | true =>
      go_enter Tryz.func89, Tryz.ntmps89
      go_wp2_with fail
      refine (CR.out).mono ?_
      rintro e _ ⟨rfl, rfl⟩
      go_wp2_with fail
      go_ret
      exact ⟨rfl, rfl⟩
    | false =>
      go_enter Tryz.func89, Tryz.ntmps89
      go_wp2_with fail
      go_ret
      exact ⟨rfl, rfl⟩
  · have hz : s.drop t.length = [] := List.drop_eq_nil_of_le (by omega)
    rw [hz]
    go_enter Tryz.func89, Tryz.ntmps89
    go_wp2_with fail
    go_ret
    exact ⟨ret_bool (by simp [Lx.fst]), rfl⟩
end Go.Proofs.YtmolmpgampmolaaGreat
