/-
  Texts joined: Text, Blk, Frame, Open, Seq, Spoil.
  Conditions: none.
-/
import Derived.Test.YtgkhpebhhkdgoaaJ03
import Derived.Laws.Concat
import Derived.Laws.RangeAny
import Derived.Laws.OwnMore
import Derived.Laws.Rows
import Derived.ProofKit
import Derived.OpenShut
import Derived.ShutString
import Derived.ChangeOld
import Derived.Deep.Slices
import Derived.ArgAppend
/-
  Strings as lists of bytes: cuts, places, sums, under one name.
  Conditions: none.
-/
namespace Go.Proofs.Ytgkhpebhhkdgoaa
set_option linter.unusedVariables false
set_option linter.unusedSimpArgs false
open Go.RowKit
/-- A list of bytes as a string. -/
def T (s : List UInt8) : ByteArray := ⟨s.toArray⟩
theorem T_inj {a b : List UInt8} (h : T a = T b) : a = b := by
  unfold T at h
  injection h with h
  simpa using h
theorem T_ne {a b : List UInt8} (h : a ≠ b) : T a ≠ T b := fun e => h (T_inj e)
theorem toList_loop (bs : ByteArray) : ∀ (d i : Nat) (r : List UInt8), bs.size - i = d → ByteArray.toList.loop bs i r = r.reverse ++ bs.data.toList.drop i := by
  intro d
  induction d with
  | zero =>
    intro i r h
    have h2 : bs.data.toList.length ≤ i := by show bs.data.size ≤ i; have : bs.size = bs.data.size := rfl; omega
    rw [ByteArray.toList.loop, if_neg (by omega), List.drop_of_length_le h2, List.append_nil]
  | succ d ih =>
    intro i r h
    have hi : i < bs.size := by omega
    have hi' : i < bs.data.toList.length := hi
    rw [ByteArray.toList.loop, if_pos hi, ih (i + 1) _ (by omega), List.drop_eq_getElem_cons hi', List.reverse_cons, List.append_assoc]
    congr 2
    rw [List.cons_append, List.nil_append]
    congr 1
    have h3 : bs.get! i = bs[i] := by simp [ByteArray.get!, getElem!_pos, hi]; rfl
    rw [h3]
    rfl
theorem T_toList (s : List UInt8) : (T s).toList = s := by
  have := toList_loop (T s) _ 0 [] rfl
  exact this.trans (by simp [T])
theorem T_size (s : List UInt8) : (T s).size = s.length := by show s.toArray.size = _; simp
theorem T_of (t : ByteArray) : ∃ s, t = T s := ⟨t.data.toList, by cases t; simp [T]⟩
theorem T_get (s : List UInt8) (k : Nat) (h : k < (T s).size) : (T s)[k]'h = s.getD k 0 := by
  have h' : k < s.length := by rw [T_size] at h; exact h
  show s.toArray[k] = _
  simp [List.getD, h']
theorem T_append (a b : List UInt8) : T a ++ T b = T (a ++ b) := by
  apply ByteArray.ext
  simp [T]
theorem T_extract (s : List UInt8) (i j : Nat) : (T s).extract i j = T ((s.take j).drop i) := by
  apply ByteArray.ext
  simp [T, List.extract_toArray, List.drop_take]
theorem run_T_at (s : List UInt8) (kd : IntKind) (z : Int) (k : Nat) (hz : z = (k : Int)) (hk : k < s.length) (w : World) :
    (Instr.index 9 (.string (T s)) (.int kd z)).run Try.prog w = .ok (.int .u8 ((s.getD k 0).toNat : Int)) w := by
  subst hz
  rw [run_index_string w _ _ kd _ Try.underlying9, dif_pos ⟨by omega, by rw [T_size]; exact Int.ofNat_lt.2 hk⟩]
  have e : ((k : Int)).toNat = k := by omega
  simp only [e, T_get]
theorem run_T_add (s t : List UInt8) (h : s.length + t.length ≤ 9223372036854775807) (w : World) : (Op.stringOp .add (T s) (T t)).run Try.prog w = .ok (.string (T (s ++ t))) w := by
  rw [run_string_add_sum w _ _ (by rw [T_size, T_size]; exact h), T_append]
/-- 's[i:j]' -/
theorem run_T_cut (s : List UInt8) (k1 k2 : IntKind) (z1 z2 : Int) (i j : Nat) (h1 : z1 = (i : Int)) (h2 : z2 = (j : Int)) (hij : i ≤ j) (hj : j ≤ s.length) (hs : s.length ≤ 9223372036854775807) (w : World) :
    (Instr.slice 9 (.string (T s)) (some (.int k1 z1)) (some (.int k2 z2)) none).run Try.prog w = .ok (.string (T ((s.take j).drop i))) w := by
  subst h1 h2
  have b1 : ∀ code, (Instr.sliceBound (.int k2 (j : Int)) (T s).size code).run Try.prog w = .ok j w := fun code => by
    rw [run_sliceBound w k2 _ _ code (by omega) (by rw [T_size]; omega)]; congr 1
  have b2 : ∀ code, (Instr.sliceBound (.int k1 (i : Int)) j code).run Try.prog w = .ok i w := fun code => by
    rw [run_sliceBound w k1 _ _ code (by omega) (by omega)]; congr 1
  simp [Instr.slice, run_underlying Try.underlying9, Instr.sliceBounds, b1, b2, T_extract, go_sem]
  intro h
  omega
/-- 's[:j]' -/
theorem run_T_head (s : List UInt8) (k2 : IntKind) (z2 : Int) (j : Nat) (h2 : z2 = (j : Int)) (hj : j ≤ s.length) (w : World) :
    (Instr.slice 9 (.string (T s)) none (some (.int k2 z2)) none).run Try.prog w = .ok (.string (T (s.take j))) w := by
  subst h2
  have b1 : ∀ code, (Instr.sliceBound (.int k2 (j : Int)) (T s).size code).run Try.prog w = .ok j w := fun code => by
    rw [run_sliceBound w k2 _ _ code (by omega) (by rw [T_size]; omega)]; congr 1
  simp [Instr.slice, run_underlying Try.underlying9, Instr.sliceBounds, b1, T_extract, go_sem]
/-- 's[i:]' -/
theorem run_T_rest (s : List UInt8) (k1 : IntKind) (z1 : Int) (i : Nat) (h1 : z1 = (i : Int)) (hi : i ≤ s.length) (w : World) :
    (Instr.slice 9 (.string (T s)) (some (.int k1 z1)) none none).run Try.prog w = .ok (.string (T (s.drop i))) w := by
  subst h1
  have b1 : ∀ code, (Instr.sliceBound (.int k1 (i : Int)) (T s).size code).run Try.prog w = .ok i w := fun code => by
    rw [run_sliceBound w k1 _ _ code (by omega) (by rw [T_size]; omega)]; congr 1
  have e : (T s).extract i (T s).size = T (s.drop i) := by rw [T_extract, T_size, List.take_length]
  simp [Instr.slice, run_underlying Try.underlying9, Instr.sliceBounds, b1, e, go_sem]
end Go.Proofs.Ytgkhpebhhkdgoaa
/-
  A block that is known whole.
  Conditions: none.
-/
namespace Go.Proofs.Ytgkhpebhhkdgoaa
set_option linter.unusedVariables false
set_option linter.unusedSimpArgs false
open Go.RowKit
def Blk (w : World) (g : Nat) (t : TypeId) (cs : Array Value) : Prop := w.heap[g]? = some (.cells cs t (0, 0))
section
variable {w w' : World} {g : Nat} {t : TypeId} {cs : Array Value}
theorem Blk.lt (h : Blk w g t cs) : g < w.heap.size := by
  rcases Nat.lt_or_ge g w.heap.size with hlt | hge
  · exact hlt
  · unfold Blk at h; rw [Array.getElem?_eq_none hge] at h; cases h
theorem Blk.cell (h : Blk w g t cs) (i : Nat) : w.cell? ⟨g, i, none⟩ = cs[i]? := cell_of_row w g i cs t (0, 0) h
theorem Blk.frozen (h : Blk w g t cs) (i : Nat) : w.frozen? ⟨g, i, none⟩ = false := by
  unfold Blk at h
  simp [World.frozen?, h]
theorem Blk.new (w : World) (t : TypeId) (cs : Array Value) : Blk (w.alloc (.cells cs t)) w.heap.size t cs := heap_alloc_new w _
theorem Blk.drew (h : Blk w g t cs) : Blk w.drew g t cs := h
theorem Blk.drewN (h : Blk w g t cs) (n : Nat) : Blk (w.drewN n) g t cs := h
theorem Blk.alloc (h : Blk w g t cs) (o : Obj) : Blk (w.alloc o) g t cs := (Below.heap_alloc w o g h.lt).trans h
theorem Blk.set_ (h : Blk w g t cs) (i : Nat) (u : Value) : Blk (w.setCell ⟨g, i, none⟩ u) g t (cs.setIfInBounds i u) := by
  unfold Blk at h ⊢
  simp [World.setCell, Array.getElem?_modify, h]
theorem Blk.far (h : Blk w g t cs) {p : Addr} (hp : g ≠ p.block) (u : Value) : Blk (w.setCell p u) g t cs := (Below.heap_setCell w p u g hp).trans h
theorem Blk.below {B : Nat} (h : Blk w g t cs) (hb : Below B w w') (hg : g < B) : Blk w' g t cs := (hb.block g hg).trans h
theorem Blk.later (h : Blk w g t cs) (hb : Below w.heap.size w w') : Blk w' g t cs := h.below hb h.lt
theorem Blk.grown {row : Option Nat} (h : Blk w g t cs) (hb : w.grownBy w' row) (hg : some g ≠ row) : Blk w' g t cs := (hb.block g h.lt hg).trans h
theorem Blk.ne_ {g' : Nat} {t' : TypeId} {cs' : Array Value} (h : Blk w g t cs) (h' : Blk w g' t' cs') (hne : t ≠ t') : g ≠ g' := by
  rintro rfl
  unfold Blk at h h'
  rw [h] at h'
  injection h' with h'
  injection h' with _ ht
  exact hne ht
theorem own_blk_ne {base : Nat} {e : TypeId} {size n : Nat} {v : Value} {xs : List Value} (h : w.ownsRow base e size v n xs) (hg : Blk w g t cs) (hne : e ≠ t) : v.ownBlock ≠ some g := by
  rcases h.2 with ⟨rfl, _⟩ | ⟨g', cap, cur, rfl, _, hh, _⟩
  · simp [Value.ownBlock]
  · intro he
    have : g' = g := by simpa [Value.ownBlock] using he
    subst this
    exact Blk.ne_ (t := e) hh hg hne rfl
theorem Blk.made {w1 : World} (hb : Below (w.alloc (.cells cs t)).heap.size (w.alloc (.cells cs t)) w1) : Blk w1 w.heap.size t cs := (Blk.new w t cs).later hb
theorem Blk.one {a : Value} (h : Blk w g t #[a]) : w.cell? ⟨g, 0, none⟩ = some a ∧ w.frozen? ⟨g, 0, none⟩ = false := ⟨h.cell 0, h.frozen 0⟩
theorem Blk.two {a b : Value} (h : Blk w g t #[a, b]) : w.cell? ⟨g, 0, none⟩ = some a ∧ w.cell? ⟨g, 1, none⟩ = some b ∧ (w.frozen? ⟨g, 0, none⟩ = false ∧ w.frozen? ⟨g, 1, none⟩ = false) := ⟨h.cell 0, h.cell 1, h.frozen 0, h.frozen 1⟩
theorem Blk.three {a b c : Value} (h : Blk w g t #[a, b, c]) : w.cell? ⟨g, 0, none⟩ = some a ∧ w.cell? ⟨g, 1, none⟩ = some b ∧ w.cell? ⟨g, 2, none⟩ = some c ∧ (w.frozen? ⟨g, 0, none⟩ = false ∧ w.frozen? ⟨g, 1, none⟩ = false ∧ w.frozen? ⟨g, 2, none⟩ = false) := ⟨h.cell 0, h.cell 1, h.cell 2, h.frozen 0, h.frozen 1, h.frozen 2⟩
/-- As regions that draw their order ask for them. -/
theorem Blk.three3 {a b c : Value} (h : Blk w g t #[a, b, c]) : ∀ (d : Nat) (os : Array Obj), (Sort.grow (redrawn w d) os).cell? ⟨g, 0, none⟩ = some a ∧ (Sort.grow (redrawn w d) os).cell? ⟨g, 1, none⟩ = some b ∧ (Sort.grow (redrawn w d) os).cell? ⟨g, 2, none⟩ = some c := fun d os => by
  have k := h.later (below_regrown w d os)
  exact ⟨k.cell 0, k.cell 1, k.cell 2⟩
theorem Blk.four {a b c d : Value} (h : Blk w g t #[a, b, c, d]) : (w.cell? ⟨g, 0, none⟩ = some a ∧ w.cell? ⟨g, 1, none⟩ = some b ∧ w.cell? ⟨g, 2, none⟩ = some c ∧ w.cell? ⟨g, 3, none⟩ = some d) ∧ (w.frozen? ⟨g, 0, none⟩ = false ∧ w.frozen? ⟨g, 1, none⟩ = false ∧ w.frozen? ⟨g, 2, none⟩ = false ∧ w.frozen? ⟨g, 3, none⟩ = false) := ⟨⟨h.cell 0, h.cell 1, h.cell 2, h.cell 3⟩, h.frozen 0, h.frozen 1, h.frozen 2, h.frozen 3⟩
theorem Blk.four4 {a b c d : Value} (h : Blk w g t #[a, b, c, d]) : ∀ (k : Nat) (os : Array Obj), (Sort.grow (redrawn w k) os).cell? ⟨g, 0, none⟩ = some a ∧ (Sort.grow (redrawn w k) os).cell? ⟨g, 1, none⟩ = some b ∧ (Sort.grow (redrawn w k) os).cell? ⟨g, 2, none⟩ = some c ∧ (Sort.grow (redrawn w k) os).cell? ⟨g, 3, none⟩ = some d := fun k os => by
  have h := h.later (below_regrown w k os)
  exact ⟨h.cell 0, h.cell 1, h.cell 2, h.cell 3⟩
theorem Blk.store3 {a b c : Value} (h : Blk w g t #[a, b, c]) (a' b' c' : Value) : Blk (((w.setCell ⟨g, 0, none⟩ a').setCell ⟨g, 1, none⟩ b').setCell ⟨g, 2, none⟩ c') g t #[a', b', c'] := ((h.set_ 0 a').set_ 1 b').set_ 2 c'
theorem Blk.store4 {a b c d : Value} (h : Blk w g t #[a, b, c, d]) (a' b' c' d' : Value) : Blk ((((w.setCell ⟨g, 0, none⟩ a').setCell ⟨g, 1, none⟩ b').setCell ⟨g, 2, none⟩ c').setCell ⟨g, 3, none⟩ d') g t #[a', b', c', d'] := (((h.set_ 0 a').set_ 1 b').set_ 2 c').set_ 3 d'
theorem below_set3 {B : Nat} (h : Below B w w') (hg : B ≤ g) (i j k : Nat) (a b c : Value) : Below B w (((w'.setCell ⟨g, i, none⟩ a).setCell ⟨g, j, none⟩ b).setCell ⟨g, k, none⟩ c) := ((h.setCell (p := ⟨g, i, none⟩) hg a).setCell (p := ⟨g, j, none⟩) hg b).setCell (p := ⟨g, k, none⟩) hg c
theorem Blk.keep {B : Nat} (h : Blk w g t cs) (hb : Below B w w') (hg : B ≤ g) : B ≤ g ∧ Below B w w' := ⟨hg, hb⟩
theorem OB.far {base : Nat} {A : Option Addr} {n c : Nat} {l : List UInt8} (h : OB w base A n c l) (hg : g < base) (i : Nat) (u : Value) : OB (w.setCell ⟨g, i, none⟩ u) base A n c l := by
  refine h.kept (row := some g) (grown_setCell (World.grownBy.refl _ _) (.inl rfl) u) ?_
  cases e : (Value.slice A n c).ownBlock with
  | none => exact .inl rfl
  | some k =>
    right
    intro he
    have := (h.lt k e).1
    injection he with he
    omega
theorem OV.far {base e size : Nat} {A : Option Addr} {n c : Nat} {l : List Value} (h : OV w base e size A n c l) (hg : g < base) (i : Nat) (u : Value) : OV (w.setCell ⟨g, i, none⟩ u) base e size A n c l := by
  refine h.kept (row := some g) (grown_setCell (World.grownBy.refl _ _) (.inl rfl) u) ?_
  cases e : (Value.slice A n c).ownBlock with
  | none => exact .inl rfl
  | some k =>
    right
    intro he
    have := (h.lt k e).1
    injection he with he
    omega
theorem RB.far {B : Nat} {A : Option Addr} {n c : Nat} {l : List UInt8} (h : RB w B A n c l) (hg : B ≤ g) (i : Nat) (u : Value) : RB (w.setCell ⟨g, i, none⟩ u) B A n c l :=
  h.keep fun q hq => World.cell?_setCell_other w ⟨g, i, none⟩ q u (fun e => by subst e; exact absurd hq (by show ¬ g < B; omega))
theorem OB.far3 {base : Nat} {A : Option Addr} {n c : Nat} {l : List UInt8} (h : OB w base A n c l) (hg : g < base) (i j k : Nat) (a b d : Value) : OB (((w.setCell ⟨g, i, none⟩ a).setCell ⟨g, j, none⟩ b).setCell ⟨g, k, none⟩ d) base A n c l := ((h.far hg i a).far hg j b).far hg k d
end
end Go.Proofs.Ytgkhpebhhkdgoaa
/-
  The row's frame: what an argument that reads as bytes is in memory.
  Conditions: none.
-/
namespace Go.Proofs.Ytgkhpebhhkdgoaa
set_option linter.unusedVariables false
set_option linter.unusedSimpArgs false
open Go.ChangeShapes Go.WideShapes Go.ChangeAt Go.RowKit
theorem wf_u8 {n : Int} (h : (Lit.int .u8 n).wf = true) : 0 ≤ n ∧ n ≤ 255 := bounds_u8 h
section
variable {H : Type} {enc : TypeId × Value → H} {P : Program} {w : World} {spare : Nat → Bool} {held : Bool}
/-- An argument '[]byte'. -/
theorem open_bytes {t e : TypeId} {A : Option Addr} {n c : Nat} {x : DataW H × List MemPlace} {fuel : Nat} (ht : P.underlying t = some (.slice e)) (he : P.underlying e = some (.int .u8)) (hc : P.cellsOf e = 1)
    (h : DataW.trod enc P w 0 spare held fuel t [.slice A n c] = some x) : ∃ l, RB w w.heap.size A n c l := by
  rcases open_ints ht he hc h with ⟨hcs, _⟩ | ⟨a, len, cap, zs, hcs, _, hl, hm, hz, _, hcell, hwz⟩
  · simp at hcs
    obtain ⟨rfl, rfl, rfl⟩ := hcs
    exact ⟨[], RB.none_⟩
  · simp at hcs
    obtain ⟨rfl, rfl, rfl⟩ := hcs
    have hzl : n ≤ zs.length := by rw [hz]; split <;> omega
    refine ⟨(zs.take n).map fun z => UInt8.ofNat z.toNat, by simp; omega, hl, by simpa [maxLen] using hm, (fun e => by cases e), fun hn => ?_⟩
    obtain ⟨b, off, spot⟩ := a
    have h0 := hcell 0 (by omega)
    have hspot : spot = none := by simpa [Addr.add] using World.cell?_spot h0
    subst hspot
    refine ⟨b, off, rfl, ?_, fun i hi => ?_⟩
    · have := World.block_lt_of_cell? w _ h0
      simpa [Addr.add_lit] using this
    · have h1 := hcell i (by omega)
      rw [Addr.add_lit] at h1
      rw [h1]
      have hil : i < zs.length := by omega
      have hw := bounds_u8 (hwz zs[i] (List.getElem_mem hil))
      have e1 : zs.getD i 0 = zs[i] := by simp [List.getD, hil]
      have e2 : ((zs.take n).map fun z => UInt8.ofNat z.toNat).getD i 0 = UInt8.ofNat zs[i].toNat := by
        simp [List.getD, hil, hi]
      rw [e1, e2, UInt8.toNat_ofNat']
      congr 2
      omega
end
end Go.Proofs.Ytgkhpebhhkdgoaa
/-
  Arguments as cells: structs of any fields, slices of any elements.
  Conditions: none.
-/
namespace Go.Proofs.Ytgkhpebhhkdgoaa
set_option linter.unusedVariables false
set_option linter.unusedSimpArgs false
open Go.ChangeShapes Go.WideShapes Go.ChangeAt Go.RowKit
/-- The cells xs are the elements fs, 'size' cells an element. -/
def Rows {α : Type} (R : α → List Value → Prop) (size : Nat) (fs : List α) (xs : List Value) : Prop :=
  xs.length = fs.length * size ∧ ∀ i f, fs[i]? = some f → R f ((xs.drop (i * size)).take size)
section
variable {α : Type} {R R' : α → List Value → Prop} {size : Nat} {fs gs : List α} {xs ys : List Value}
theorem Rows.nil : Rows R size [] [] := ⟨by simp, fun i f h => by simp at h⟩
theorem Rows.imp (h : Rows R size fs xs) (hi : ∀ f cs, R f cs → R' f cs) : Rows R' size fs xs := ⟨h.1, fun i f hf => hi _ _ (h.2 i f hf)⟩
theorem Rows.append (h : Rows R size fs xs) (h' : Rows R size gs ys) : Rows R size (fs ++ gs) (xs ++ ys) := by
  refine ⟨by rw [List.length_append, List.length_append, h.1, h'.1, Nat.add_mul], fun i f hf => ?_⟩
  rcases Nat.lt_or_ge i fs.length with hi | hi
  · rw [List.getElem?_append_left hi] at hf
    have h1 := h.2 i f hf
    have hle : (i + 1) * size ≤ xs.length := by rw [h.1]; exact Nat.mul_le_mul_right _ hi
    rw [Nat.add_mul, Nat.one_mul] at hle
    rw [List.drop_append_of_le_length (by omega), List.take_append_of_le_length (by rw [List.length_drop]; omega)]
    exact h1
  · rw [List.getElem?_append_right hi] at hf
    have h1 := h'.2 _ f hf
    have e : i * size = xs.length + (i - fs.length) * size := by rw [h.1, Nat.sub_mul]; have := Nat.mul_le_mul_right size hi; omega
    rw [e, List.drop_append, List.drop_of_length_le (by omega), List.nil_append, Nat.add_sub_cancel_left]
    exact h1
theorem Rows.one {f : α} {cs : List Value} (h : R f cs) (hl : cs.length = size) : Rows R size [f] cs := by
  refine ⟨by simpa using hl, fun i g hg => ?_⟩
  cases i with
  | zero => simp at hg; subst hg; simpa [List.take_of_length_le (Nat.le_of_eq hl)] using h
  | succ i => simp at hg
theorem Rows.take (h : Rows R size fs xs) (k : Nat) (hk : k ≤ fs.length) : Rows R size (fs.take k) (xs.take (k * size)) := by
  have hle := Nat.mul_le_mul_right size hk
  refine ⟨by rw [List.length_take, List.length_take, h.1, Nat.min_eq_left hle, Nat.min_eq_left hk], fun i f hf => ?_⟩
  rw [List.getElem?_take] at hf
  split at hf
  · rename_i hi
    have h1 := h.2 i f hf
    have h2 : (i + 1) * size ≤ k * size := Nat.mul_le_mul_right _ hi
    rw [Nat.add_mul, Nat.one_mul] at h2
    rw [List.drop_take, List.take_take, Nat.min_eq_left (by omega)]
    exact h1
  · cases hf
theorem Rows.drop (h : Rows R size fs xs) (k : Nat) : Rows R size (fs.drop k) (xs.drop (k * size)) := by
  refine ⟨by rw [List.length_drop, List.length_drop, h.1, Nat.sub_mul], fun i f hf => ?_⟩
  rw [List.getElem?_drop] at hf
  have h1 := h.2 _ f hf
  rw [List.drop_drop, ← Nat.add_mul]
  exact h1
theorem Rows.len (h : Rows R size fs xs) : xs.length = fs.length * size := h.1
end
section
variable {H : Type} {enc : TypeId × Value → H} {P : Program} {w : World} {spare : Nat → Bool} {held : Bool} {base : Nat}
theorem trod_field {t : TypeId} {fs : Array Field} {fuel : Nat} {cs : List Value} {x : DataW H × List MemPlace} (ht : P.underlying t = some (.struct fs)) (h : DataW.trod enc P w base spare held fuel t cs = some x) :
    cs.length = P.cellsOf t ∧ ∀ (i : Nat) (f : Field), fs[i]? = some f → ∃ n y, DataW.trod enc P w base spare held n f.type ((cs.drop f.offset).take (P.cellsOf f.type)) = some y := by
  obtain ⟨ys, n, _, _, hlen, hyl, hf⟩ := DataW.trod_struct ht h
  refine ⟨hlen, fun i f hi => ?_⟩
  have h1 := hf i f hi
  have hi' : i < ys.length := by rw [hyl]; exact (Array.getElem?_eq_some_iff.1 hi).1
  rw [List.getElem?_eq_getElem hi'] at h1
  exact ⟨n, _, h1⟩
theorem trod_len {t : TypeId} {fs : Array Field} {fuel : Nat} {cs : List Value} {x : DataW H × List MemPlace} {m : Nat} (ht : P.underlying t = some (.struct fs)) (h : DataW.trod enc P w base spare held fuel t cs = some x) (hm : P.cellsOf t = m) : cs.length = m := (trod_field ht h).1.trans hm
/-- Field i: m cells from 'off' on. -/
theorem trod_part {t : TypeId} {fs : Array Field} {fuel : Nat} {cs : List Value} {x : DataW H × List MemPlace} (ht : P.underlying t = some (.struct fs)) (h : DataW.trod enc P w base spare held fuel t cs = some x)
    (i ft off m : Nat) (hi : (fs[i]?).map (fun f => (f.type, f.offset)) = some (ft, off)) (hc : P.cellsOf ft = m) : ∃ n y, DataW.trod enc P w base spare held n ft ((cs.drop off).take m) = some y := by
  cases hf : fs[i]? with
  | none => rw [hf] at hi; simp at hi
  | some f =>
    rw [hf] at hi
    simp only [Option.map_some, Option.some.injEq, Prod.mk.injEq] at hi
    obtain ⟨h1, h2⟩ := hi
    obtain ⟨n, y, h3⟩ := (trod_field ht h).2 i f hf
    rw [h1, h2, hc] at h3
    exact ⟨n, y, h3⟩
/-- A field of one cell. -/
theorem trod_one {t : TypeId} {fs : Array Field} {fuel : Nat} {cs : List Value} {x : DataW H × List MemPlace} (ht : P.underlying t = some (.struct fs)) (h : DataW.trod enc P w base spare held fuel t cs = some x)
    (i ft off : Nat) (v : Value) (hi : (fs[i]?).map (fun f => (f.type, f.offset)) = some (ft, off)) (hc : P.cellsOf ft = 1) (hv : cs[off]? = some v) : ∃ n y, DataW.trod enc P w base spare held n ft [v] = some y := by
  obtain ⟨n, y, h1⟩ := trod_part ht h i ft off 1 hi hc
  have hl : off < cs.length := (List.getElem?_eq_some_iff.1 hv).1
  have e : (cs.drop off).take 1 = [v] := by
    rw [List.drop_eq_getElem_cons hl, List.take_succ_cons, List.take_zero]
    rw [List.getElem?_eq_getElem hl] at hv
    injection hv with hv
    rw [hv]
  rw [e] at h1
  exact ⟨n, y, h1⟩
theorem cell_int {t : TypeId} {k : IntKind} {fuel : Nat} {v : Value} {x : DataW H × List MemPlace} (ht : P.underlying t = some (.int k)) (h : DataW.trod enc P w base spare held fuel t [v] = some x) : ∃ z, v = .int k z ∧ (Lit.int k z).wf = true := by
  obtain ⟨z, e, _, hw⟩ := DataW.trod_int ht h
  injection e with e
  exact ⟨z, e, hw⟩
theorem cell_bool {t : TypeId} {fuel : Nat} {v : Value} {x : DataW H × List MemPlace} (ht : P.underlying t = some .bool) (h : DataW.trod enc P w base spare held fuel t [v] = some x) : ∃ b, v = .bool b := by
  obtain ⟨b, e, _⟩ := DataW.trod_bool ht h
  injection e with e
  exact ⟨b, e⟩
theorem cell_string {t : TypeId} {fuel : Nat} {v : Value} {x : DataW H × List MemPlace} (ht : P.underlying t = some .string) (h : DataW.trod enc P w base spare held fuel t [v] = some x) : ∃ s : ByteArray, v = .string s ∧ s.size ≤ maxLen := by
  obtain ⟨s, e, _, hw⟩ := DataW.trod_string ht h
  injection e with e
  exact ⟨s, e, hw⟩
theorem cell_slice {t e : TypeId} {fuel : Nat} {v : Value} {x : DataW H × List MemPlace} (ht : P.underlying t = some (.slice e)) (h : DataW.trod enc P w base spare held fuel t [v] = some x) : ∃ A n c, v = .slice A n c := by
  rcases Deep.open_slice ht h with ⟨h0, _⟩ | ⟨a, len, cap, m, n, D, Pl, hcs, _⟩
  · injection h0 with h0; exact ⟨_, _, _, h0⟩
  · injection hcs with h0; exact ⟨_, _, _, h0⟩
theorem cell_bytes {t e : TypeId} {fuel : Nat} {v : Value} {x : DataW H × List MemPlace} (ht : P.underlying t = some (.slice e)) (he : P.underlying e = some (.int .u8)) (hc : P.cellsOf e = 1)
    (h : DataW.trod enc P w 0 spare held fuel t [v] = some x) : ∃ A n c l, v = .slice A n c ∧ RB w w.heap.size A n c l := by
  obtain ⟨A, n, c, rfl⟩ := cell_slice ht h
  obtain ⟨l, hl⟩ := open_bytes ht he hc h
  exact ⟨A, n, c, l, rfl, hl⟩
theorem open_rows {α : Type} (R : α → List Value → Prop) {t e : TypeId} {size : Nat} (ht : P.underlying t = some (.slice e)) (hC : P.cellsOf e = size) (hs : 0 < size)
    (hR : ∀ n cs y, DataW.trod enc P w base spare held n e cs = some y → ∃ f, R f cs) {A : Option Addr} {n c fuel : Nat} {x : DataW H × List MemPlace} (h : DataW.trod enc P w base spare held fuel t [.slice A n c] = some x) :
    ∃ fs xs, fs.length = n ∧ RV w w.heap.size size A n c xs ∧ Rows R size fs xs := by
  rcases Deep.open_slice ht h with ⟨h0, _⟩ | ⟨a, len, cap, m, nn, D, Pl, hcs, hb, hl, hcap, hm, _, hi⟩
  · injection h0 with h0
    injection h0 with h1 h2 h3
    subst h1 h2 h3
    exact ⟨[], [], rfl, RV.none_, Rows.nil⟩
  · injection hcs with h0
    injection h0 with h1 h2 h3
    subst h1 h2 h3
    have hnm : n ≤ m := by rw [hm]; split <;> omega
    have build : ∀ k, k ≤ n → ∃ fs xs, fs.length = k ∧ Rows R size fs xs ∧ ∀ j u, xs[j]? = some u → w.cell? (a.add j) = some u := by
      intro k
      induction k with
      | zero => exact fun _ => ⟨[], [], rfl, Rows.nil, fun j u hj => by simp at hj⟩
      | succ k ih =>
        intro hk
        obtain ⟨fs, xs, h1, h2, h3⟩ := ih (by omega)
        obtain ⟨cs, hc, ht'⟩ := hi k (by omega)
        obtain ⟨f, hf⟩ := hR _ _ _ ht'
        rw [hC] at hc
        obtain ⟨_, hcl, hat⟩ := World.cells?_some hc
        refine ⟨fs ++ [f], xs ++ cs, by simp [h1], h2.append (Rows.one hf hcl), fun j u hj => ?_⟩
        rcases Nat.lt_or_ge j xs.length with hlt | hge
        · rw [List.getElem?_append_left hlt] at hj
          exact h3 j u hj
        · rw [List.getElem?_append_right hge] at hj
          have hj' : j - xs.length < size := by have := (List.getElem?_eq_some_iff.1 hj).1; omega
          have h4 := hat (j - xs.length) hj'
          rw [Deep.add_add, hj] at h4
          rw [← h4, h2.1, h1]
          congr 2
          rw [h2.1, h1] at hge
          omega
    obtain ⟨fs, xs, h1, h2, h3⟩ := build n (Nat.le_refl _)
    refine ⟨fs, xs, h1, ⟨by rw [h2.1, h1], hl, by simpa [maxLen] using hcap, (fun e => by cases e), fun hn => ?_⟩, h2⟩
    have hx0 : 0 < xs.length := by rw [h2.1, h1]; exact Nat.mul_pos hn hs
    have h0 := h3 0 _ (List.getElem?_eq_getElem hx0)
    obtain ⟨b, off, spot⟩ := a
    have hspot : spot = none := by simpa [Addr.add] using World.cell?_spot h0
    subst hspot
    refine ⟨b, off, rfl, ?_, fun j u hu => ?_⟩
    · have := World.block_lt_of_cell? w _ h0
      simpa [Addr.add_lit] using this
    · have := h3 j u hu
      rwa [Addr.add_lit] at this
end
end Go.Proofs.Ytgkhpebhhkdgoaa
/-
  Slices of any structs: read, of the call's own; append.
  Conditions: none.
-/
namespace Go.Proofs.Ytgkhpebhhkdgoaa
set_option linter.unusedVariables false
set_option linter.unusedSimpArgs false
open Go.RowKit
theorem own_own_ne {w : World} {base base' e e' size size' n n' : Nat} {v v' : Value} {xs xs' : List Value} (h : w.ownsRow base e size v n xs) (h' : w.ownsRow base' e' size' v' n' xs') (hne : e ≠ e') : v'.ownBlock = none ∨ v'.ownBlock ≠ v.ownBlock := by
  rcases h'.2 with ⟨rfl, _⟩ | ⟨g', cap', cur', rfl, _, hh', _⟩
  · exact .inl rfl
  · right
    intro he
    rcases h.2 with ⟨rfl, _⟩ | ⟨g, cap, cur, rfl, _, hh, _⟩
    · cases he
    · have : g' = g := by simpa [Value.ownBlock] using he
      subst this
      rw [hh] at hh'
      injection hh' with hh'
      injection hh' with _ ht
      exact hne ht
section
variable {α : Type} {R R' : α → List Value → Prop} {w w' : World} {B B' size n c : Nat} {A : Option Addr} {fs : List α}
/-- A slice that is read, its elements by R. -/
def RS (R : α → List Value → Prop) (w : World) (B size : Nat) (A : Option Addr) (n c : Nat) (fs : List α) : Prop := ∃ xs, RV w B size A n c xs ∧ Rows R size fs xs
/-- A slice of the call's own. -/
def OS (R : α → List Value → Prop) (w : World) (base e size : Nat) (A : Option Addr) (n c : Nat) (fs : List α) : Prop := ∃ xs, OV w base e size A n c xs ∧ Rows R size fs xs
theorem RS.len (h : RS R w B size A n c fs) (hs : 0 < size) : fs.length = n := by
  obtain ⟨xs, h1, h2⟩ := h
  have e := h1.len
  rw [h2.len] at e
  exact Nat.eq_of_mul_eq_mul_right hs e
theorem RS.lt (h : RS R w B size A n c fs) : n ≤ 9223372036854775807 := by
  obtain ⟨xs, h1, h2⟩ := h
  exact Nat.le_trans h1.le h1.cap
theorem RS.keep (h : RS R w B size A n c fs) (hk : ∀ p : Addr, p.block < B → w'.cell? p = w.cell? p) (hi : ∀ f cs, R f cs → R' f cs) : RS R' w' B size A n c fs := by
  obtain ⟨xs, h1, h2⟩ := h
  exact ⟨xs, h1.keep hk, h2.imp hi⟩
theorem RS.below (h : RS R w B size A n c fs) (hb : Below B w w') (hi : ∀ f cs, R f cs → R' f cs) : RS R' w' B size A n c fs := h.keep (fun _ hp => hb.cell hp) hi
theorem RS.more (h : RS R w B size A n c fs) (hB : B ≤ B') (hi : ∀ f cs, R f cs → R' f cs) : RS R' w B' size A n c fs := by
  obtain ⟨xs, h1, h2⟩ := h
  exact ⟨xs, h1.more hB, h2.imp hi⟩
theorem RS.imp (h : RS R w B size A n c fs) (hi : ∀ f cs, R f cs → R' f cs) : RS R' w B size A n c fs := by
  obtain ⟨xs, h1, h2⟩ := h
  exact ⟨xs, h1, h2.imp hi⟩
theorem RS.at_ (h : RS R w B size A n c fs) (hs : 0 < size) {i : Nat} {f : α} (hf : fs[i]? = some f) : ∃ b o cs, A = some ⟨b, o, none⟩ ∧ b < B ∧ R f cs ∧ ∀ j u, j < size → cs[j]? = some u → w.cell? ⟨b, o + i * size + j, none⟩ = some u := by
  have hl := h.len hs
  have hi : i < n := by rw [← hl]; exact (List.getElem?_eq_some_iff.1 hf).1
  obtain ⟨xs, h1, h2⟩ := h
  obtain ⟨b, o, rfl, hb, hc⟩ := h1.at_ (by omega)
  refine ⟨b, o, _, rfl, hb, h2.2 i f hf, fun j u hj hu => ?_⟩
  rw [List.getElem?_take, if_pos hj, List.getElem?_drop] at hu
  rw [Nat.add_assoc]
  exact hc _ u hu
theorem RS.none_ : RS R w B size none 0 0 [] := ⟨[], RV.none_, Rows.nil⟩
theorem OS.none_ (w : World) (base e size : Nat) : OS R w base e size none 0 0 [] := ⟨[], OV.none_ _ _ _ _, Rows.nil⟩
theorem OS.rs {base e : Nat} (h : OS R w base e size A n c fs) : RS R w w.heap.size size A n c fs := by
  obtain ⟨xs, h1, h2⟩ := h
  exact ⟨xs, h1.rv, h2⟩
theorem OS.below {base e : Nat} (h : OS R w base e size A n c fs) (hb : Below w.heap.size w w') (hi : ∀ f cs, R f cs → R' f cs) : OS R' w' base e size A n c fs := by
  obtain ⟨xs, h1, h2⟩ := h
  exact ⟨xs, h1.below hb, h2.imp hi⟩
theorem OS.more {base base' e : Nat} (h : OS R w base e size A n c fs) (hb : base' ≤ base) (hi : ∀ f cs, R f cs → R' f cs) : OS R' w base' e size A n c fs := by
  obtain ⟨xs, h1, h2⟩ := h
  exact ⟨xs, h1.more hb, h2.imp hi⟩
theorem OS.kept {base e : Nat} {row : Option Nat} (h : OS R w base e size A n c fs) (hg : w.grownBy w' row) (hne : (Value.slice A n c).ownBlock = none ∨ (Value.slice A n c).ownBlock ≠ row) (hi : ∀ f cs, R f cs → R' f cs) : OS R' w' base e size A n c fs := by
  obtain ⟨xs, h1, h2⟩ := h
  exact ⟨xs, h1.kept hg hne, h2.imp hi⟩
theorem OS.imp {base e : Nat} (h : OS R w base e size A n c fs) (hi : ∀ f cs, R f cs → R' f cs) : OS R' w base e size A n c fs := by
  obtain ⟨xs, h1, h2⟩ := h
  exact ⟨xs, h1, h2.imp hi⟩
theorem OS.len {base e : Nat} (h : OS R w base e size A n c fs) (hs : 0 < size) : fs.length = n := h.rs.len hs
end
section
variable {α : Type} {P : Program} {T E size bytes : Nat} {z : Value}
/-- 'append(x, f)', f laid in a block of its own. -/
theorem wpList_apps (ht : ET P T E size bytes z) (R : World → α → List Value → Prop) {w : World} {ops : Array Oper} {rest : List Oper} {o : Oper} {a : Act} {Q : Exit → Act → World → Prop} (hgd : o.guard = none) (s x : Operand)
    (ho : o.op = .call { callee := .builtin .append, args := #[s, x], argTypes := #[T, T] })
    {A : Option Addr} {n c : Nat} (hs : a.eval s = .slice A n c) {g : Nat} (hx : a.eval x = .slice (some ⟨g, 0, none⟩) 1 1) (hgw : g = w.heap.size)
    (base : Nat) {l : List α} (hown : OS (R w) w base E size A n c l) (f : α) {cs : List Value} (hf : R w f cs) (hl : cs.length = size) (h1 : ∀ u ∈ cs, u.oneCell' = true)
    (hbytes : (n + 1) * bytes ≤ 140737488355328) (h63 : n + 1 ≤ 9223372036854775807) (hbase : base ≤ w.heap.size)
    (hR : ∀ w1 A1 n1 c1 xs, OV w base E size A1 n1 c1 xs → w.grownBy w1 (Value.slice A1 n1 c1).ownBlock → ∀ f cs, R w f cs → R w1 f cs)
    (h : ∀ A1 c1 w1, OS (R w1) w1 base E size A1 (n + 1) c1 (l ++ [f]) → Below base w w1 → w.grownBy w1 (Value.slice A n c).ownBlock →
      ((Value.slice A1 (n + 1) c1).ownBlock = (Value.slice A n c).ownBlock ∨ (Value.slice A1 (n + 1) c1).ownBlock = some (w.heap.size + 1)) → wpList P ops Q rest (a.put o.dst (.slice A1 (n + 1) c1)) w1) :
    wpList P ops Q (o :: rest) a (w.alloc (.cells cs.toArray E)) := by
  subst hgw
  obtain ⟨xs, k1, k2⟩ := hown
  have hnew := (OV.new (base := base) (e := E) (size := size) w cs 1 (by omega) (by omega) hbase).rv
  refine wpList_app ht hgd s x ho hs hx base (k1.alloc _) hnew h1 hbytes h63 (by simp; omega) fun A1 c1 w1 j1 j2 j3 => ?_
  have hg : w.grownBy w1 (Value.slice A n c).ownBlock := World.grownBy.trans (World.grownBy_alloc w _ _) j2
  have hi := hR w1 A n c xs k1 hg
  exact h A1 c1 w1 ⟨_, j1, Rows.append (k2.imp hi) (Rows.one (hi _ _ hf) hl)⟩ (grown_below hg k1.lt hbase) hg (by simpa using j3)
/-- The same, wherever the new cells lie. -/
theorem wpList_apps2 (ht : ET P T E size bytes z) (R : World → α → List Value → Prop) {w : World} {ops : Array Oper} {rest : List Oper} {o : Oper} {a : Act} {Q : Exit → Act → World → Prop} (hgd : o.guard = none) (s x : Operand)
    (ho : o.op = .call { callee := .builtin .append, args := #[s, x], argTypes := #[T, T] })
    {A : Option Addr} {n c : Nat} (hs : a.eval s = .slice A n c) {A' : Option Addr} {c' : Nat} (hx : a.eval x = .slice A' 1 c')
    (base : Nat) {l : List α} (hown : OS (R w) w base E size A n c l) (f : α) {cs : List Value} {B : Nat} (hr : RV w B size A' 1 c' cs) (hf : R w f cs) (h1 : ∀ u ∈ cs, u.oneCell' = true)
    (hbytes : (n + 1) * bytes ≤ 140737488355328) (h63 : n + 1 ≤ 9223372036854775807) (hbase : base ≤ w.heap.size)
    (hR : ∀ w1 A1 n1 c1 xs, OV w base E size A1 n1 c1 xs → w.grownBy w1 (Value.slice A1 n1 c1).ownBlock → ∀ f cs, R w f cs → R w1 f cs)
    (h : ∀ A1 c1 w1, OS (R w1) w1 base E size A1 (n + 1) c1 (l ++ [f]) → Below base w w1 → w.grownBy w1 (Value.slice A n c).ownBlock →
      ((Value.slice A1 (n + 1) c1).ownBlock = (Value.slice A n c).ownBlock ∨ (Value.slice A1 (n + 1) c1).ownBlock = some w.heap.size) → wpList P ops Q rest (a.put o.dst (.slice A1 (n + 1) c1)) w1) :
    wpList P ops Q (o :: rest) a w := by
  obtain ⟨xs, k1, k2⟩ := hown
  refine wpList_app ht hgd s x ho hs hx base k1 hr h1 hbytes h63 hbase fun A1 c1 w1 j1 j2 j3 => ?_
  have hi := hR w1 A n c xs k1 j2
  exact h A1 c1 w1 ⟨_, j1, Rows.append (k2.imp hi) (Rows.one (hi _ _ hf) (by have := hr.len; omega))⟩ (grown_below j2 k1.lt hbase) j2 j3
theorem RV.new (w : World) (e : TypeId) {cs : List Value} (hl : cs.length = size) : RV (w.alloc (.cells cs.toArray e)) (w.heap.size + 1) size (some ⟨w.heap.size, 0, none⟩) 1 1 cs := by
  refine (OV.new (base := 0) (e := e) (size := size) w cs 1 (by omega) (by omega) (Nat.zero_le _)).rv.more (by simp)
theorem RV.lit (w : World) (e m : Nat) {cs : List Value} (hl : cs.length = m * size) (hm : m ≤ 9223372036854775807) : RV (w.alloc (.cells cs.toArray e)) (w.heap.size + 1) size (some ⟨w.heap.size, 0, none⟩) m m cs := by
  refine (OV.new (base := 0) (e := e) (size := size) w cs m (by omega) hm (Nat.zero_le _)).rv.more (by simp)
end
end Go.Proofs.Ytgkhpebhhkdgoaa
/-
  Spoil, of slices that may share their memory: blocks of bytes stay blocks of bytes.
  Conditions: none.
-/
namespace Go.Proofs.Ytgkhpebhhkdgoaa
set_option linter.unusedVariables false
set_option linter.unusedSimpArgs false
open Go.RowKit
/-- Blocks of bytes stay such, and no byte becomes anything else; other blocks are as they were. -/
structure SpU (w w' : World) : Prop where
  size : w.heap.size ≤ w'.heap.size
  bytes : ∀ g cur, Blk w g 5 cur → ∃ cur', Blk w' g 5 cur' ∧ cur'.size = cur.size ∧ ∀ (i : Nat) (x : UInt8), cur[i]? = some (bv x) → ∃ y : UInt8, cur'[i]? = some (bv y)
  rest : ∀ g e cur, e ≠ 5 → Blk w g e cur → Blk w' g e cur
theorem SpU.refl (w : World) : SpU w w := ⟨Nat.le_refl _, fun g cur h => ⟨cur, h, rfl, fun i x hx => ⟨x, hx⟩⟩, fun _ _ _ _ h => h⟩
theorem SpU.trans {w w1 w2 : World} (h : SpU w w1) (k : SpU w1 w2) : SpU w w2 := by
  refine ⟨Nat.le_trans h.1 k.1, fun g cur hb => ?_, fun g e cur he hb => k.3 g e cur he (h.3 g e cur he hb)⟩
  obtain ⟨c1, h1, h2, h3⟩ := h.2 g cur hb
  obtain ⟨c2, k1, k2, k3⟩ := k.2 g c1 h1
  exact ⟨c2, k1, by omega, fun i x hx => by obtain ⟨y, hy⟩ := h3 i x hx; exact k3 i y hy⟩
theorem SpU.below {w w' : World} (hb : Below w.heap.size w w') : SpU w w' := ⟨hb.size, fun g cur h => ⟨cur, h.later hb, rfl, fun i x hx => ⟨x, hx⟩⟩, fun _ _ _ _ h => h.later hb⟩
theorem SpU.set_ (w : World) {g : Nat} {cur : Array Value} (hg : Blk w g 5 cur) (i : Nat) (y : UInt8) {v : Int} (hv : v = (y.toNat : Int)) : SpU w (w.setCell ⟨g, i, none⟩ (.int .u8 v)) := by
  subst hv
  refine ⟨by simp [World.setCell], fun g' cur' h' => ?_, fun g' e cur' he h' => h'.far (p := ⟨g, i, none⟩) (Blk.ne_ h' hg he) _⟩
  by_cases e : g' = g
  · subst e
    refine ⟨_, h'.set_ i (bv y), by simp, fun j x hx => ?_⟩
    rw [Array.getElem?_setIfInBounds]
    by_cases e : i = j
    · subst e
      have : i < cur'.size := (Array.getElem?_eq_some_iff.1 hx).1
      exact ⟨y, by simp [this]⟩
    · exact ⟨x, by rw [if_neg e]; exact hx⟩
  · exact ⟨cur', h'.far (p := ⟨g, i, none⟩) e _, rfl, fun j x hx => ⟨x, hx⟩⟩
/-- A row of other elements is as it was. -/
theorem OV.sp {w w' : World} {base e size n c : Nat} {A : Option Addr} {xs : List Value} (h : OV w base e size A n c xs) (k : SpU w w') (he : e ≠ 5) : OV w' base e size A n c xs := by
  obtain ⟨hl, hr⟩ := h
  refine ⟨hl, ?_⟩
  rcases hr with h1 | ⟨g, cap, cur, hv, hb, hg, r⟩
  · exact .inl h1
  · exact .inr ⟨g, cap, cur, hv, hb, k.rest g e cur he hg, r⟩
/-- A slice of bytes that may be written to, from block 'base' on. -/
structure WB (w : World) (base : Nat) (A : Option Addr) (n c : Nat) : Prop where
  le : n ≤ c
  cap : c ≤ 9223372036854775807
  nil : A = none → n = 0 ∧ c = 0
  at_ : 0 < c → ∃ g cur, A = some ⟨g, 0, none⟩ ∧ base ≤ g ∧ Blk w g 5 cur ∧ c ≤ cur.size ∧ ∀ i, i < n → ∃ x : UInt8, cur[i]? = some (bv x)
theorem WB.sp {w w' : World} {base n c : Nat} {A : Option Addr} (h : WB w base A n c) (k : SpU w w') : WB w' base A n c := by
  refine ⟨h.le, h.cap, h.nil, fun hc => ?_⟩
  obtain ⟨g, cur, e, hg, hb, hs, hx⟩ := h.at_ hc
  obtain ⟨cur', k1, k2, k3⟩ := k.2 g cur hb
  exact ⟨g, cur', e, hg, k1, by omega, fun i hi => by obtain ⟨x, hx⟩ := hx i hi; exact k3 i x hx⟩
theorem WB.below {w w' : World} {base n c : Nat} {A : Option Addr} (h : WB w base A n c) (hb : Below w.heap.size w w') : WB w' base A n c := h.sp (SpU.below hb)
theorem WB.more {w : World} {base base' n c : Nat} {A : Option Addr} (h : WB w base A n c) (hb : base' ≤ base) : WB w base' A n c :=
  ⟨h.le, h.cap, h.nil, fun hc => by obtain ⟨g, cur, e, hg, r⟩ := h.at_ hc; exact ⟨g, cur, e, by omega, r⟩⟩
theorem WB.none_ (w : World) (base : Nat) : WB w base none 0 0 := ⟨Nat.le_refl _, by omega, fun _ => ⟨rfl, rfl⟩, fun h => absurd h (by omega)⟩
theorem OB.wb {w : World} {base n c : Nat} {A : Option Addr} {l : List UInt8} (h : OB w base A n c l) : WB w base A n c := by
  refine ⟨h.rb.le, h.rb.cap, h.rb.nil, fun hc => ?_⟩
  have hl := h.rb.len
  rcases h.2 with ⟨hv, _⟩ | ⟨g, cap, cur, hv, hb, hg, hnc, hcm, hcs, ht⟩
  · injection hv with _ _ h3; omega
  · injection hv with h1 h2 h3
    subst h1 h3
    refine ⟨g, cur, rfl, hb, hg, by omega, fun i hi => ⟨l.getD i 0, ?_⟩⟩
    have : (l.map bv)[i]? = cur.toList[i]? := by rw [← ht, List.getElem?_take, if_pos (by omega)]
    rw [← Array.getElem?_toList, ← this]
    simp [List.getD, List.getElem?_eq_getElem (show i < l.length by omega)]
/-- 'x[:k:k]' -/
theorem WB.cut {w : World} {base n c k : Nat} {A : Option Addr} (h : WB w base A n c) (hk : k ≤ n) : WB w base A k k :=
  ⟨Nat.le_refl _, Nat.le_trans (Nat.le_trans hk h.le) h.cap, fun e => by have := h.nil e; omega, fun hc => by
    have := h.le
    obtain ⟨g, cur, e, hg, hb, hs, hx⟩ := h.at_ (by omega)
    exact ⟨g, cur, e, hg, hb, by omega, fun i hi => hx i (by omega)⟩⟩
theorem WB.own_ne {w : World} {base n c : Nat} {A : Option Addr} {base' e size m c' : Nat} {A' : Option Addr} {xs : List Value} (h : WB w base A n c) (hc : 0 < c) (h' : OV w base' e size A' m c' xs) (hne : e ≠ 5) : (Value.slice A' m c').ownBlock ≠ (Value.slice A n c).ownBlock := by
  obtain ⟨g, cur, rfl, _, hb, _⟩ := h.at_ hc
  exact own_blk_ne h' hb hne
theorem grown_row {w : World} {base e n : Nat} {v : Value} {xs : List Value} (h : w.ownsRow base e 1 v (n + 1) xs) :
    ∃ g c u, v = .slice (some ⟨g, 0, none⟩) (n + 1) c ∧ base ≤ g ∧ g < w.heap.size ∧ n + 1 ≤ c ∧ w.cell? ⟨g, n, none⟩ = some u ∧ w.frozen? ⟨g, n, none⟩ = false ∧ ∃ cur, Blk w g e cur := by
  rcases h.2 with ⟨_, h0⟩ | ⟨g, cap, cur, rfl, hb, hg, hnc, hcm, hcs, ht⟩
  · omega
  · have hB : Blk w g e cur := hg
    exact ⟨g, cap, cur[n]'(by omega), rfl, hb, hB.lt, hnc, (hB.cell n).trans (Array.getElem?_eq_getElem _), hB.frozen n, cur, hB⟩
theorem one_new (w : World) (v : Value) (e : TypeId) : ∀ (j : Nat) (u : Value), ([v] : List Value)[j]? = some u → (w.alloc (.cells #[v] e)).cell? (({ block := w.heap.size, off := 0 } : Addr).add j) = some u := by
  intro j u hu
  obtain rfl : j = 0 := by
    have := (List.getElem?_eq_some_iff.1 hu).1
    simp at this
    exact this
  rw [Addr.add_lit]
  exact ((Blk.new w e #[v]).cell 0).trans hu
theorem one_one : ∀ u ∈ ([.int .u8 99] : List Value), u.oneCell' = true := by
  intro u hu
  simp only [List.mem_cons, List.not_mem_nil, or_false] at hu
  subst hu
  rfl
/-- Bytes of the call's own, whose capacity may end ahead of their block's end. -/
structure OW (w : World) (base : Nat) (A : Option Addr) (n c : Nat) (l : List UInt8) : Prop where
  len : l.length = n
  le : n ≤ c
  cap : c ≤ 9223372036854775807
  nil : A = none → n = 0 ∧ c = 0
  at_ : 0 < c → ∃ g cur, A = some ⟨g, 0, none⟩ ∧ base ≤ g ∧ Blk w g 5 cur ∧ c ≤ cur.size ∧ cur.toList.take n = l.map bv
section
variable {w w' : World} {base base' n c : Nat} {A : Option Addr} {l : List UInt8}
theorem OB.ow (h : OB w base A n c l) : OW w base A n c l := by
  refine ⟨h.rb.len, h.rb.le, h.rb.cap, h.rb.nil, fun hc => ?_⟩
  rcases h.2 with ⟨hv, _⟩ | ⟨g, cap, cur, hv, hb, hg, hnc, hcm, hcs, ht⟩
  · injection hv with _ _ h3; omega
  · injection hv with h1 h2 h3
    subst h1 h3
    exact ⟨g, cur, rfl, hb, hg, by omega, by simpa using ht⟩
theorem OW.wb (h : OW w base A n c l) : WB w base A n c := by
  refine ⟨h.le, h.cap, h.nil, fun hc => ?_⟩
  obtain ⟨g, cur, e, hg, hb, hs, ht⟩ := h.at_ hc
  refine ⟨g, cur, e, hg, hb, hs, fun i hi => ⟨l.getD i 0, ?_⟩⟩
  have hl := h.len
  have : (l.map bv)[i]? = cur.toList[i]? := by rw [← ht, List.getElem?_take, if_pos (by omega)]
  rw [← Array.getElem?_toList, ← this]
  simp [List.getD, List.getElem?_eq_getElem (show i < l.length by omega)]
theorem OW.rb (h : OW w base A n c l) : RB w w.heap.size A n c l := by
  have hl := h.len
  have hle := h.le
  refine ⟨hl, hle, h.cap, h.nil, fun hn => ?_⟩
  obtain ⟨g, cur, rfl, hg, hb, hs, ht⟩ := h.at_ (by omega)
  refine ⟨g, 0, rfl, hb.lt, fun i hi => ?_⟩
  rw [Nat.zero_add, hb.cell i]
  have : (l.map bv)[i]? = cur.toList[i]? := by rw [← ht, List.getElem?_take, if_pos (by omega)]
  rw [← Array.getElem?_toList, ← this]
  simp [List.getD, List.getElem?_eq_getElem (show i < l.length by omega), bv]
theorem OW.cut (h : OW w base A n c l) {k : Nat} (hk : k ≤ n) : OW w base A k k (l.take k) := by
  have hle := h.le
  have hcap := h.cap
  refine ⟨by rw [List.length_take, h.len]; omega, Nat.le_refl _, by omega, fun e => by have := h.nil e; omega, fun hc => ?_⟩
  obtain ⟨g, cur, e, hg, hb, hs, ht⟩ := h.at_ (by omega)
  refine ⟨g, cur, e, hg, hb, by omega, ?_⟩
  rw [List.map_take, ← ht, List.take_take, Nat.min_eq_left hk]
theorem OW.more (h : OW w base A n c l) (hb : base' ≤ base) : OW w base' A n c l :=
  ⟨h.len, h.le, h.cap, h.nil, fun hc => by obtain ⟨g, cur, e, hg, r⟩ := h.at_ hc; exact ⟨g, cur, e, by omega, r⟩⟩
theorem OW.below (h : OW w base A n c l) (hb : Below w.heap.size w w') : OW w' base A n c l :=
  ⟨h.len, h.le, h.cap, h.nil, fun hc => by obtain ⟨g, cur, e, hg, k, r⟩ := h.at_ hc; exact ⟨g, cur, e, hg, k.later hb, r⟩⟩
theorem OW.grown {row : Option Nat} (h : OW w base A n c l) (hg : w.grownBy w' row) (hne : ∀ g cur, Blk w g 5 cur → some g ≠ row) : OW w' base A n c l :=
  ⟨h.len, h.le, h.cap, h.nil, fun hc => by obtain ⟨g, cur, e, hb, k, r⟩ := h.at_ hc; exact ⟨g, cur, e, hb, k.grown hg (hne g cur k), r⟩⟩
/-- Beside an append to a row of other elements. -/
theorem OW.beside {base' e size m c' : Nat} {A' : Option Addr} {xs : List Value} (h : OW w base A n c l) (h' : OV w base' e size A' m c' xs) (hne : e ≠ 5) (hg : w.grownBy w' (Value.slice A' m c').ownBlock) : OW w' base A n c l :=
  h.grown hg fun _ _ hb he => own_blk_ne h' hb hne he.symm
theorem OW.none_ (w : World) (base : Nat) : OW w base none 0 0 [] := ⟨rfl, Nat.le_refl _, by omega, fun _ => ⟨rfl, rfl⟩, fun h => absurd h (by omega)⟩
end
end Go.Proofs.Ytgkhpebhhkdgoaa
