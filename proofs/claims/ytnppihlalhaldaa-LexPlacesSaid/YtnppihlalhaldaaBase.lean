/-
  Words on memory: a slice that reads as bytes, a row of bytes of the call's own, and what keeps them.
  Conditions: none.
-/
import Derived.WalkKit
import Derived.WalkSpells
import Derived.WalkLawsBesides
import Derived.Lib.Hide
import Derived.Deep.AppendLies
import Derived.Deep.Draws
import Derived.Laws.CopyOwn
namespace Go.Proofs.Ytnppihlalhaldaa
set_option linter.unusedVariables false
set_option linter.unusedSimpArgs false
open Go.RowKit

/-- A byte as a cell. -/
def bv (c : UInt8) : Value := .int .u8 (c.toNat : Int)

/-- The slice '.slice A n c' reads as the bytes l; its cells lie below block B. -/
structure RB (w : World) (B : Nat) (A : Option Addr) (n c : Nat) (l : List UInt8) : Prop where
  len : l.length = n
  le : n ≤ c
  cap : c ≤ 9223372036854775807
  nil : A = none → n = 0 ∧ c = 0
  at_ : 0 < n → ∃ b o, A = some ⟨b, o, none⟩ ∧ b < B ∧ ∀ i, i < n → w.cell? ⟨b, o + i, none⟩ = some (.int .u8 ((l.getD i 0).toNat : Int))

/-- What is of the call's own: a row of bytes from block 'base' on. -/
def OB (w : World) (base : Nat) (A : Option Addr) (n c : Nat) (l : List UInt8) : Prop := w.ownsRow base 5 1 (.slice A n c) n (l.map bv)

theorem byte_lt (c : UInt8) : c.toNat < 256 := c.toNat_lt
theorem getD_byte (l : List UInt8) (i : Nat) : ((l.getD i 0).toNat : Int) < 256 := by have := (l.getD i 0).toNat_lt; omega

theorem byte_beq (x y : UInt8) : ((x.toNat : Int) == (y.toNat : Int)) = (x == y) := by
  rw [Bool.eq_iff_iff, beq_iff_eq, beq_iff_eq]
  exact ⟨fun h => UInt8.toNat_inj.1 (by omega), fun h => by rw [h]⟩
theorem u8_xor_bytes (x y : UInt8) : bits .xor .u8 (x.toNat : Int) (y.toNat : Int) = ((x ^^^ y).toNat : Int) := by
  rw [u8_xor_nat _ _ x.toNat_lt y.toNat_lt, UInt8.toNat_xor]
theorem u8_or_bytes (x y : UInt8) : bits .or .u8 (x.toNat : Int) (y.toNat : Int) = ((x ||| y).toNat : Int) := by
  rw [u8_or_nat _ _ x.toNat_lt y.toNat_lt, UInt8.toNat_or]
theorem u8_and_bytes (x y : UInt8) : bits .and .u8 (x.toNat : Int) (y.toNat : Int) = ((x &&& y).toNat : Int) := by
  rw [u8_and_nat _ _ x.toNat_lt y.toNat_lt, UInt8.toNat_and]

section
variable {w w' : World} {B B' n c : Nat} {A : Option Addr} {l : List UInt8}
theorem RB.none_ : RB w B none 0 0 [] := ⟨rfl, Nat.le_refl _, by omega, fun _ => ⟨rfl, rfl⟩, fun h => absurd h (by omega)⟩
theorem RB.keep (h : RB w B A n c l) (hk : ∀ p : Addr, p.block < B → w'.cell? p = w.cell? p) : RB w' B A n c l :=
  ⟨h.len, h.le, h.cap, h.nil, fun hn => by
    obtain ⟨b, o, e, hb, hc⟩ := h.at_ hn
    exact ⟨b, o, e, hb, fun i hi => (hk _ hb).trans (hc i hi)⟩⟩
theorem RB.more (h : RB w B A n c l) (hB : B ≤ B') : RB w B' A n c l :=
  ⟨h.len, h.le, h.cap, h.nil, fun hn => by
    obtain ⟨b, o, e, hb, hc⟩ := h.at_ hn
    exact ⟨b, o, e, by omega, hc⟩⟩
theorem RB.below (h : RB w B A n c l) (hb : Below B w w') : RB w' B A n c l := h.keep fun _ hp => hb.cell hp
theorem RB.alloc (h : RB w B A n c l) (hB : B ≤ w.heap.size) (o : Obj) : RB (w.alloc o) B A n c l := h.keep fun p hp => World.cell?_alloc_lt w o p (by omega)
theorem RB.drew (h : RB w B A n c l) : RB w.drew B A n c l := ⟨h.len, h.le, h.cap, h.nil, h.at_⟩
theorem RB.drewN (h : RB w B A n c l) (k : Nat) : RB (w.drewN k) B A n c l := ⟨h.len, h.le, h.cap, h.nil, h.at_⟩
theorem RB.lt (h : RB w B A n c l) : n ≤ 9223372036854775807 := Nat.le_trans h.le h.cap
/-- 'x[:k]' -/
theorem RB.take (h : RB w B A n c l) {k : Nat} (hk : k ≤ n) : RB w B A k c (l.take k) :=
  ⟨by rw [List.length_take, h.len]; omega, Nat.le_trans hk h.le, h.cap, fun e => ⟨by have := (h.nil e).1; omega, (h.nil e).2⟩, fun hn => by
    obtain ⟨b, o, e, hb, hc⟩ := h.at_ (by omega)
    refine ⟨b, o, e, hb, fun i hi => ?_⟩
    rw [hc i (by omega)]
    simp [List.getD, List.getElem?_take, hi]⟩
/-- 'x[k:]', as the model has it: at the capacity's end the address stays. -/
theorem RB.drop (h : RB w B A n c l) {k : Nat} (hk : k ≤ n) : RB w B (if c = k then A else A.map (·.add k)) (n - k) (c - k) (l.drop k) :=
  ⟨by rw [List.length_drop, h.len], by have := h.le; omega, by have := h.cap; omega, fun e => by
    have hA : A = none := by
      split at e
      · exact e
      · simpa using e
    have := h.nil hA; omega, fun hn => by
    obtain ⟨b, o, rfl, hb, hc⟩ := h.at_ (by omega)
    rw [if_neg (by have := h.le; omega)]
    refine ⟨b, o + k, by simp [Addr.add_lit], hb, fun i hi => ?_⟩
    rw [Nat.add_assoc, hc (k + i) (by omega)]
    simp [List.getD, List.getElem?_drop]⟩
theorem OB.rb {base : Nat} (h : OB w base A n c l) : RB w w.heap.size A n c l := by
  obtain ⟨hl, hr⟩ := h
  have hlen : l.length = n := by simpa using hl
  rcases hr with ⟨hv, hn⟩ | ⟨g, cap, cur, hv, hb, hg, hnc, hcm, hcs, ht⟩
  · injection hv with h1 h2 h3
    subst h1 h2 h3
    exact ⟨hlen, Nat.le_refl _, by omega, fun _ => ⟨rfl, rfl⟩, fun h => absurd h (by omega)⟩
  · injection hv with h1 h2 h3
    subst h1 h3
    have hcap : c ≤ 9223372036854775807 := by simpa [maxLen] using hcm
    refine ⟨hlen, hnc, hcap, (fun e => by cases e), fun hn => ⟨g, 0, rfl, (Array.getElem?_eq_some_iff.1 hg).1, fun i hi => ?_⟩⟩
    rw [Nat.zero_add, cell_of_row w g i cur _ (0, 0) hg]
    have : (l.map bv)[i]? = cur.toList[i]? := by rw [← ht, List.getElem?_take, if_pos (by omega)]
    rw [← Array.getElem?_toList, ← this]
    simp [List.getD, List.getElem?_eq_getElem (show i < l.length by omega), bv]
theorem OB.more {base base' : Nat} (h : OB w base A n c l) (hb : base' ≤ base) : OB w base' A n c l := by
  refine ⟨h.1, ?_⟩
  rcases h.2 with h2 | ⟨g, cap, cur, hv, hg, r⟩
  · exact .inl h2
  · exact .inr ⟨g, cap, cur, hv, by omega, r⟩
/-- What is owned is kept where nothing below the heap's size turns. -/
theorem OB.below {base : Nat} (h : OB w base A n c l) (hb : Below w.heap.size w w') : OB w' base A n c l := by
  refine ⟨h.1, ?_⟩
  rcases h.2 with h2 | ⟨g, cap, cur, hv, hg, hh, r⟩
  · exact .inl h2
  · exact .inr ⟨g, cap, cur, hv, hg, (hb.block g (Array.getElem?_eq_some_iff.1 hh).1).trans hh, r⟩
theorem OB.below_of {base B : Nat} (h : OB w base A n c l) (hb : Below B w w') (hB : ∀ k, (Value.slice A n c).ownBlock = some k → k < B) : OB w' base A n c l := by
  refine ⟨h.1, ?_⟩
  rcases h.2 with h2 | ⟨g, cap, cur, hv, hg, hh, r⟩
  · exact .inl h2
  · exact .inr ⟨g, cap, cur, hv, hg, (hb.block g (hB g (by rw [hv]; rfl))).trans hh, r⟩
/-- 'string(x)' -/
theorem RB.conv {P : Program} (h : RB w B A n c l) (src e : TypeId) (hs : P.underlying src = some (.slice e)) (he : P.underlying e = some (.int .u8)) :
    ∀ dst, P.underlying dst = some .string → (convert src dst (.slice A n c)).run P w = .ok (.string ⟨l.toArray⟩) w := by
  intro dst hd
  by_cases hn : 0 < n
  · obtain ⟨b, o, rfl, hb, hc⟩ := h.at_ hn
    have := run_convert_bytes_arg (P := P) w src e hs he b o n c (l.map fun x => (x.toNat : Int)) (by simpa using h.len) (fun i hi => by
      rw [hc i hi]
      simp [List.getD, List.getElem?_eq_getElem (show i < l.length by rw [h.len]; exact hi)]) dst hd
    rw [this]
    congr 2
    simp [strOfNums, List.map_map, Function.comp_def]
  · obtain rfl : n = 0 := by omega
    have hl : l = [] := List.eq_nil_of_length_eq_zero h.len
    subst hl
    cases A with
    | none => exact run_convert_bytes_nil w src e hs he _ _ dst hd
    | some ad =>
      have := run_bytesToString (P := P) w ad 0 c [] (by simp [loadCells, loadCellsFrom])
      rw [run_convert_bytes_string w src dst e _ 0 c hs he hd, this]
      rfl
end

theorem bcell {W w1 : World} (hb : Below W.heap.size W w1) : (∀ b o, b < W.heap.size → w1.cell? ⟨b, o, none⟩ = W.cell? ⟨b, o, none⟩) ∧ (∀ b o, b < W.heap.size → w1.frozen? ⟨b, o, none⟩ = W.frozen? ⟨b, o, none⟩) :=
  ⟨fun b o h => hb.cell (p := ⟨b, o, none⟩) h, fun b o h => hb.frozen (p := ⟨b, o, none⟩) h⟩

theorem ret_int {k : IntKind} {a b : Int} (h : a = b) : Ending.returned (.int k a) = .returned (.int k b) := by rw [h]
theorem ret_bool {a b : Bool} (h : a = b) : Ending.returned (.bool a) = .returned (.bool b) := by rw [h]
theorem alloc_one (w : World) (o : Obj) : Below w.heap.size w (w.alloc o) := (Below.refl _ _).alloc (Nat.le_refl _) o
theorem alloc_two (w : World) (o o' : Obj) : Below w.heap.size w ((w.alloc o).alloc o') := (alloc_one w o).alloc (by simp) o'
theorem below_drewN {B : Nat} {a w : World} (h : Below B a w) (n : Nat) : Below B a (w.drewN n) := ⟨h.os, h.tape, h.output, h.size, h.block⟩
/-- Two steps, each of which leaves alone what was there when it began. -/
theorem below_step {B : Nat} {a b c : World} (h : Below B a b) (k : Below b.heap.size b c) (hB : B ≤ a.heap.size) : Below B a c :=
  h.trans (k.mono (Nat.le_trans hB h.size))

end Go.Proofs.Ytnppihlalhaldaa
