/-
  Texts joined: DicPure, MapPure, BitPure, BitFld, MapCPure, Base, CobPure.
  Conditions: none.
-/
import Derived.Test.YtbmocffnnlfnjaaGreatJ01
import Derived.Test.YtbmocffnnlfnjaaGreatProg
import Derived.WalkKit
import Derived.WalkSpells
import Derived.WalkLawsBesides
import Derived.Lib.Hide
import Derived.Deep.AppendLies
import Derived.Deep.Draws
import Derived.Laws.CopyOwn
/-
  Layer 15 as plain functions: a dictionary.
  Conditions: none.
-/
namespace Go.Proofs.YtbmocffnnlfnjaaGreat.Dc
set_option linter.unusedVariables false
set_option linter.unusedSimpArgs false
open Ent
structure Dic where
  l : List En
  v : List (List UInt8)
def en0 : En := ⟨0, 0, [], 0, 0, false, false, 0, 0, 0, []⟩
/-- Is an entry ahead of a place? -/
def ahead (x y : Int) (e : En) : Bool := if e.index = x then decide (e.sub < y) else decide (e.index < x)
theorem ahead_bef (x y : Int) (e p : En) (h1 : p.index = x) (h2 : p.sub = y) : befB e p = ahead x y e := by subst h1 h2; rfl
def seekS (l : List En) (x y : Int) : Nat := (l.takeWhile (ahead x y)).length
def hit (x y : Int) (e : En) : Bool := decide (e.index = x ∧ e.sub = y)
def atB (l : List En) (k : Nat) (x y : Int) : Bool := decide (k < l.length) && hit x y (l.getD k en0)
def inB (l : List En) (x : Int) : Bool := l.any fun e => e.index == x
def findS (l : List En) (x y : Int) : Option Nat := if atB l (seekS l x y) x y = true then some (seekS l x y) else none
/-- Why there is no entry. -/
def missS (l : List En) (x y : Int) : Int := match findS l x y with | some _ => 0 | none => if inB l x = true then 101253137 else 100794368
/-- In order. -/
def Ord (l : List En) : Prop := ∀ i, i + 1 < l.length → befB (l.getD i en0) (l.getD (i + 1) en0) = true
def Lt (x y x' y' : Int) : Prop := x < x' ∨ (x = x' ∧ y < y')
theorem bef_iff {a b : En} : befB a b = true ↔ Lt a.index a.sub b.index b.sub := by
  unfold befB Lt
  split <;> simp <;> omega
theorem ahead_iff {x y : Int} {e : En} : ahead x y e = true ↔ Lt e.index e.sub x y := by
  unfold ahead Lt
  split <;> simp <;> omega
theorem Lt.trans {a b c d e f : Int} (h : Lt a b c d) (h' : Lt c d e f) : Lt a b e f := by unfold Lt at *; omega
theorem ord_lt {l : List En} (h : Ord l) : ∀ (k i : Nat), i + (k + 1) < l.length → Lt (l.getD i en0).index (l.getD i en0).sub (l.getD (i + (k + 1)) en0).index (l.getD (i + (k + 1)) en0).sub
  | 0, i, hi => bef_iff.1 (h i hi)
  | k + 1, i, hi => (ord_lt h k i (by omega)).trans (bef_iff.1 (h (i + (k + 1)) (by omega)))
theorem ord_lt2 {l : List En} (h : Ord l) {i j : Nat} (hij : i < j) (hj : j < l.length) : Lt (l.getD i en0).index (l.getD i en0).sub (l.getD j en0).index (l.getD j en0).sub := by
  have := ord_lt h (j - i - 1) i (by omega)
  rwa [show i + (j - i - 1 + 1) = j by omega] at this
theorem seek_le (l : List En) (x y : Int) : seekS l x y ≤ l.length := (List.takeWhile_prefix _).length_le
theorem seek_lt {l : List En} {x y : Int} {j : Nat} (h : j < seekS l x y) : ahead x y (l.getD j en0) = true := by
  unfold seekS at h
  have hp := List.takeWhile_prefix (ahead x y) (l := l)
  have hl := hp.length_le
  have e : (l.takeWhile (ahead x y))[j] = l[j]'(by omega) := by
    obtain ⟨t, ht⟩ := hp
    have : l[j]'(by omega) = (l.takeWhile (ahead x y) ++ t)[j]'(by rw [List.length_append]; omega) := by congr 1; exact ht.symm
    rw [this, List.getElem_append_left h]
  have hm := List.getElem_mem h
  have := List.all_eq_true.1 (List.all_takeWhile (p := ahead x y) (l := l)) _ hm
  rw [e] at this
  rw [List.getD_eq_getElem?_getD, List.getElem?_eq_getElem (by omega)]
  exact this
theorem seek_at {l : List En} {x y : Int} (h : seekS l x y < l.length) : ahead x y (l.getD (seekS l x y) en0) = false := by
  induction l with
  | nil => simp at h
  | cons e l ih =>
    unfold seekS at *
    rw [List.takeWhile_cons] at *
    split at h
    · rename_i hp
      rw [if_pos hp]
      simp only [List.length_cons, List.getD_cons_succ] at *
      exact ih (by omega)
    · rename_i hp
      rw [if_neg hp]
      simpa using hp
theorem seek_ge {l : List En} (ho : Ord l) {x y : Int} {j : Nat} (h : seekS l x y ≤ j) (hj : j < l.length) : ahead x y (l.getD j en0) = false := by
  rcases Nat.eq_or_lt_of_le h with h1 | h1
  · subst h1; exact seek_at hj
  · cases ha : ahead x y (l.getD j en0) with
    | false => rfl
    | true =>
      have h2 := ord_lt2 ho h1 hj
      have h3 := h2.trans (ahead_iff.1 ha)
      have h4 := seek_at (l := l) (x := x) (y := y) (by omega)
      rw [ahead_iff.2 h3] at h4
      cases h4
/-- What a search by halves finds. -/
theorem seek_of {l : List En} (ho : Ord l) {x y : Int} {k : Nat} (hk : k ≤ l.length) (h1 : ∀ j, j < k → ahead x y (l.getD j en0) = true) (h2 : ∀ j, k ≤ j → j < l.length → ahead x y (l.getD j en0) = false) : k = seekS l x y := by
  rcases Nat.lt_trichotomy k (seekS l x y) with h | h | h
  · have := seek_lt h
    rw [h2 k (Nat.le_refl _) (by have := seek_le l x y; omega)] at this
    cases this
  · exact h
  · have := seek_at (l := l) (x := x) (y := y) (by omega)
    rw [h1 _ h] at this
    cases this
theorem hit_iff {x y : Int} {e : En} : hit x y e = true ↔ e.index = x ∧ e.sub = y := by unfold hit; simp
theorem find_some {l : List En} {x y : Int} {k : Nat} (h : findS l x y = some k) : k = seekS l x y ∧ k < l.length ∧ (l.getD k en0).index = x ∧ (l.getD k en0).sub = y := by
  unfold findS at h
  split at h
  · rename_i ha
    injection h with h
    subst h
    unfold atB at ha
    simp only [Bool.and_eq_true, decide_eq_true_eq] at ha
    exact ⟨rfl, ha.1, hit_iff.1 ha.2⟩
  · cases h
theorem find_none {l : List En} (ho : Ord l) {x y : Int} (h : findS l x y = none) {j : Nat} (hj : j < l.length) : ¬ ((l.getD j en0).index = x ∧ (l.getD j en0).sub = y) := by
  rintro ⟨h1, h2⟩
  have e : j = seekS l x y := by
    rcases Nat.lt_trichotomy j (seekS l x y) with h3 | h3 | h3
    · have := ahead_iff.1 (seek_lt h3)
      unfold Lt at this
      omega
    · exact h3
    · have h4 := ord_lt2 ho h3 hj
      rw [h1, h2] at h4
      have h5 := seek_at (l := l) (x := x) (y := y) (by omega)
      rw [ahead_iff.2 h4] at h5
      cases h5
  unfold findS at h
  rw [if_pos (by unfold atB; rw [← e, decide_eq_true hj, hit_iff.2 ⟨h1, h2⟩]; rfl)] at h
  cases h
/-- An index is there at the place, or ahead of it. -/
theorem in_near {l : List En} (ho : Ord l) (x y : Int) : inB l x = (decide (seekS l x y < l.length) && ((l.getD (seekS l x y) en0).index == x) || (decide (1 ≤ seekS l x y) && ((l.getD (seekS l x y - 1) en0).index == x))) := by
  have hle := seek_le l x y
  rw [Bool.eq_iff_iff]
  unfold inB
  simp only [List.any_eq_true, Bool.or_eq_true, Bool.and_eq_true, decide_eq_true_eq, beq_iff_eq]
  constructor
  · rintro ⟨e, he, hx⟩
    obtain ⟨j, hj, rfl⟩ := List.getElem_of_mem he
    have hg : l.getD j en0 = l[j] := by rw [List.getD_eq_getElem?_getD, List.getElem?_eq_getElem hj]; rfl
    rw [← hg] at hx
    rcases Nat.lt_or_ge j (seekS l x y) with h | h
    · right
      refine ⟨by omega, ?_⟩
      have h1 := ahead_iff.1 (seek_lt (l := l) (x := x) (y := y) (j := seekS l x y - 1) (by omega))
      rcases Nat.eq_or_lt_of_le (show j ≤ seekS l x y - 1 by omega) with h2 | h2
      · rw [← h2]; exact hx
      · have h3 := ord_lt2 ho h2 (by omega)
        unfold Lt at h1 h3
        omega
    · left
      refine ⟨by omega, ?_⟩
      have h1 := seek_at (l := l) (x := x) (y := y) (by omega)
      have h2 : ¬ Lt (l.getD (seekS l x y) en0).index (l.getD (seekS l x y) en0).sub x y := by
        intro h; rw [ahead_iff.2 h] at h1; cases h1
      rcases Nat.eq_or_lt_of_le h with h3 | h3
      · rw [h3]; exact hx
      · have h4 := ord_lt2 ho h3 hj
        unfold Lt at h2 h4
        omega
  · rintro (⟨h, hx⟩ | ⟨h, hx⟩)
    · exact ⟨_, by rw [List.getD_eq_getElem?_getD, List.getElem?_eq_getElem h]; exact List.getElem_mem h, hx⟩
    · have h' : seekS l x y - 1 < l.length := by omega
      exact ⟨_, by rw [List.getD_eq_getElem?_getD, List.getElem?_eq_getElem h']; exact List.getElem_mem h', hx⟩
/-- What the document's search finds: -1, -2 where there is none. -/
def rfind (l : List En) (x y : Int) : Int := match findS l x y with | some k => (k : Int) | none => if inB l x = true then -1 else -2
/-- A dictionary of entries: its code, and the fault's place. -/
def newF (l : List En) : Nat → Nat → Int × Nat
  | 0, _ => (0, 0)
  | k + 1, i => if rightS (l.getD i en0) ≠ 0 then (rightS (l.getD i en0), i) else if 0 < i ∧ befB (l.getD (i - 1) en0) (l.getD i en0) = false then (16, i) else newF l k (i + 1)
def newS (l : List En) : Int × Nat := if 96 < l.length then (3, 96) else newF l l.length 0
theorem newF_ok {l : List En} : ∀ (k i : Nat), k + i = l.length → newF l k i = (0, 0) → ∀ j, i ≤ j → j < l.length → rightS (l.getD j en0) = 0 ∧ (0 < j → befB (l.getD (j - 1) en0) (l.getD j en0) = true)
  | 0, i, hk, _, j, h1, h2 => by omega
  | k + 1, i, hk, h, j, h1, h2 => by
    rw [newF] at h
    split at h
    · rename_i hr; injection h with h _; exact absurd h hr
    · rename_i hr
      split at h
      · simp at h
      · rename_i hb
        rcases Nat.eq_or_lt_of_le h1 with h3 | h3
        · subst h3
          refine ⟨by simpa using hr, fun h0 => ?_⟩
          cases hbb : befB (l.getD (i - 1) en0) (l.getD i en0) with
          | true => rfl
          | false => exact absurd ⟨h0, hbb⟩ hb
        · exact newF_ok k (i + 1) (by omega) h j (by omega) h2
theorem newF_place {l : List En} : ∀ (k i : Nat), (newF l k i).1 = 0 → (newF l k i).2 = 0
  | 0, _, _ => rfl
  | k + 1, i, h => by
    rw [newF] at h ⊢
    split at h
    · rename_i hr; exact absurd h hr
    · rename_i hr
      rw [if_neg hr]
      split at h
      · simp at h
      · rename_i hb
        rw [if_neg hb]
        exact newF_place k (i + 1) h
/-- A dictionary that was made is in order, and its entries are right. -/
theorem new_ok {l : List En} (h : (newS l).1 = 0) : l.length ≤ 96 ∧ Ord l ∧ ∀ e ∈ l, rightS e = 0 := by
  unfold newS at h
  split at h
  · simp at h
  · rename_i h96
    have hz : newF l l.length 0 = (0, 0) := by
      have := newF_place l.length 0 h
      generalize newF l l.length 0 = x at *
      obtain ⟨a, b⟩ := x
      dsimp only at *
      subst h this
      rfl
    have ha := newF_ok l.length 0 (by omega) hz
    refine ⟨by omega, fun i hi => ?_, fun e he => ?_⟩
    · have := (ha (i + 1) (by omega) hi).2 (by omega)
      rwa [Nat.add_sub_cancel] at this
    · obtain ⟨j, hj, rfl⟩ := List.getElem_of_mem he
      have := (ha j (by omega) hj).1
      rwa [List.getD_eq_getElem?_getD, List.getElem?_eq_getElem hj] at this
/-- Why a value may not be set. -/
def mayS (l : List En) (any : Bool) (x y : Int) (b : List UInt8) : Int := match findS l x y with
  | none => if inB l x = true then 101253137 else 100794368
  | some k => if any = false ∧ writS (l.getD k en0) ≠ 0 then writS (l.getD k en0) else valS (l.getD k en0) b
def pokeS (d : Dic) (x y : Int) (b : List UInt8) : Dic := match findS d.l x y with
  | none => d
  | some k => if valS (d.l.getD k en0) b = 0 then ⟨d.l, d.v.set k b⟩ else d
def peekS (d : Dic) (x y : Int) : Option (List UInt8) := (findS d.l x y).map fun k => d.v.getD k []
structure Vl where
  index : Int
  sub : Int
  data : List UInt8
def valuesS (d : Dic) : List Vl := (List.range d.l.length).map fun k => ⟨(d.l.getD k en0).index, (d.l.getD k en0).sub, d.v.getD k []⟩
def sameV : List Vl → List Vl → Bool
  | [], [] => true
  | a :: l, b :: m => a.index == b.index && a.sub == b.sub && a.data == b.data && sameV l m
  | _, _ => false
theorem sameV_self : ∀ l : List Vl, sameV l l = true
  | [] => rfl
  | a :: l => by simp [sameV, sameV_self l]
end Go.Proofs.YtbmocffnnlfnjaaGreat.Dc
/-
  Layer 30 as plain functions: words of a mapping.
  Conditions: none.
-/
namespace Go.Proofs.YtbmocffnnlfnjaaGreat.Mp
set_option linter.unusedVariables false
set_option linter.unusedSimpArgs false
open Ent Dc
def ix (w : Nat) : Nat := w / 65536
def sb (w : Nat) : Nat := w / 256 % 256
def bt (w : Nat) : Nat := w % 256
def joinS (a b c : Int) : Int × Int := if a < 0 ∨ 65535 < a ∨ b < 0 ∨ 255 < b ∨ c < 0 ∨ 255 < c then (0, 9) else (65536 * a + 256 * b + c, 0)
def sizeS (l : List Nat) : Nat := (l.map bt).sum
/-- Why a word can not be mapped. -/
def oneS (l : List En) (inn : Bool) (w : Nat) : Int := match findS l (ix w) (sb w) with
  | none => if inB l (ix w) = true then 101253137 else 100794368
  | some k => if (l.getD k en0).map = false ∨ ((Ty.kd (l.getD k en0).type).bits : Int) ≠ (bt w : Int) ∨ (if inn = true then writS (l.getD k en0) else readS (l.getD k en0)) ≠ 0 then 100925505 else 0
/-- Why a mapping can not be: from the word of a number on, n words being ahead. -/
def checkF (l : List En) (inn : Bool) (all : List Nat) : Nat → Nat → Int
  | 0, _ => 0
  | k + 1, i => if oneS l inn (all.getD i 0) ≠ 0 then oneS l inn (all.getD i 0) else if 64 < sizeS (all.take (i + 1)) then 100925506 else checkF l inn all k (i + 1)
def checkS (l : List En) (inn : Bool) (all : List Nat) : Int := if 8 < all.length then 100925506 else checkF l inn all all.length 0
end Go.Proofs.YtbmocffnnlfnjaaGreat.Mp
/-
  Layer 29 as plain functions: bits at a place of bytes.
  Conditions: none.
-/
namespace Go.Proofs.YtbmocffnnlfnjaaGreat.Bt
set_option linter.unusedVariables false
set_option linter.unusedSimpArgs false
def bytesS (n : Int) : Int := if n < 1 then 0 else (n - 1) / 8 + 1
/-- What is wrong of n bits at a place of len bytes. -/
def roomS (len : Nat) (at_ n : Int) : Int := if n < 1 ∨ 64 < n ∨ at_ < 0 then 1 else if 8 * (len : Int) < at_ ∨ 8 * (len : Int) - at_ < n then 2 else 0
def bt (l : List UInt8) (i : Nat) : Nat := (l.getD (i / 8) 0).toNat / 2 ^ (i % 8) % 2
theorem bt_lt (l : List UInt8) (i : Nat) : bt l i < 2 := Nat.mod_lt _ (by decide)
/-- The number of n bits, from the lowest one up. -/
def lowF (l : List UInt8) (p : Nat) : Nat → Nat
  | 0 => 0
  | n + 1 => lowF l p n + bt l (p + n) * 2 ^ n
theorem lowF_lt (l : List UInt8) (p : Nat) : ∀ n, lowF l p n < 2 ^ n
  | 0 => by simp [lowF]
  | n + 1 => by
    have h1 := lowF_lt l p n
    have h2 := bt_lt l (p + n)
    have h3 : bt l (p + n) * 2 ^ n ≤ 1 * 2 ^ n := Nat.mul_le_mul_right _ (by omega)
    rw [lowF, Nat.pow_succ]
    omega
/-- The same, from the highest one down: k bits of them. -/
def upF (l : List UInt8) (p n : Nat) : Nat → Nat
  | 0 => 0
  | k + 1 => 2 * upF l p n k + bt l (p + (n - 1 - k))
theorem upF_lowF (l : List UInt8) (p n : Nat) : ∀ k, k ≤ n → lowF l p n = lowF l p (n - k) + 2 ^ (n - k) * upF l p n k
  | 0, _ => by simp [upF]
  | k + 1, h => by
    rw [upF_lowF l p n k (by omega), upF]
    have e : n - k = (n - (k + 1)) + 1 := by omega
    rw [e, lowF, Nat.pow_succ, show n - 1 - k = n - (k + 1) by omega, Nat.mul_add]
    rw [show 2 ^ (n - (k + 1)) * (2 * upF l p n k) = 2 ^ (n - (k + 1)) * 2 * upF l p n k by rw [Nat.mul_assoc], Nat.mul_comm (bt l (p + (n - (k + 1)))) _]
    omega
theorem upF_all (l : List UInt8) (p n : Nat) : upF l p n n = lowF l p n := by
  have := upF_lowF l p n n (Nat.le_refl _)
  simp [lowF] at this
  exact this.symm
theorem upF_lt (l : List UInt8) (p n : Nat) : ∀ k, upF l p n k < 2 ^ k
  | 0 => by simp [upF]
  | k + 1 => by
    have h1 := upF_lt l p n k
    have h2 := bt_lt l (p + (n - 1 - k))
    rw [upF, Nat.pow_succ]
    omega
def getS (l : List UInt8) (at_ n : Int) : Nat × Int := if roomS l.length at_ n = 0 then (lowF l at_.toNat n.toNat, 0) else (0, roomS l.length at_ n)
/-- A byte with one bit set, or not. -/
def sb (c : UInt8) (j : Nat) (x : Bool) : UInt8 := UInt8.ofNat (if x then c.toNat ||| 2 ^ j else c.toNat &&& (255 - 2 ^ j))
def setB (l : List UInt8) (i : Nat) (x : Bool) : List UInt8 := l.set (i / 8) (sb (l.getD (i / 8) 0) (i % 8) x)
/-- The n lowest bits of v laid at p. -/
def putF (l : List UInt8) (p v : Nat) : Nat → List UInt8
  | 0 => l
  | n + 1 => setB (putF l p v n) (p + n) (v.testBit n)
theorem putF_length (l : List UInt8) (p v : Nat) : ∀ n, (putF l p v n).length = l.length
  | 0 => rfl
  | n + 1 => by rw [putF, setB, List.length_set, putF_length]
def wideS (v : Nat) (n : Int) : Bool := decide (n < 64) && v / 2 ^ n.toNat != 0
def putS (l : List UInt8) (at_ n : Int) (v : Nat) : List UInt8 × Int :=
  if roomS l.length at_ n = 1 then ([], 1) else if wideS v n = true then ([], 9) else if roomS l.length at_ n = 0 then (putF l at_.toNat v n.toNat, 0) else ([], roomS l.length at_ n)
end Go.Proofs.YtbmocffnnlfnjaaGreat.Bt
/-
  Layer 29 as plain functions: fields, packed and unpacked.
  Conditions: none.
-/
namespace Go.Proofs.YtbmocffnnlfnjaaGreat.Bt
set_option linter.unusedVariables false
set_option linter.unusedSimpArgs false
structure Fld where
  bits : Int
  data : List UInt8
def Fld.zero : Fld := ⟨0, []⟩
theorem bytesS_pos {m : Int} (h1 : 1 ≤ m) (h2 : m ≤ 64) : 1 ≤ bytesS m ∧ bytesS m ≤ 8 ∧ m ≤ 8 * bytesS m ∧ 8 * bytesS m < m + 8 := by
  unfold bytesS
  rw [if_neg (by omega)]
  omega
/-- Is it a field? -/
def fits (f : Fld) : Bool := decide (1 ≤ f.bits ∧ f.bits ≤ 64 ∧ (f.data.length : Int) = bytesS f.bits)
def valS (f : Fld) : Nat × Bool := if fits f = true then (Oct.le f.data, !wideS (Oct.le f.data) f.bits) else (0, false)
def okF (f : Fld) : Bool := (valS f).2
theorem okF_fits {f : Fld} (h : okF f = true) : 1 ≤ f.bits ∧ f.bits ≤ 64 ∧ (f.data.length : Int) = bytesS f.bits ∧ wideS (Oct.le f.data) f.bits = false := by
  unfold okF valS at h
  split at h
  · rename_i h1
    unfold fits at h1
    have h2 := of_decide_eq_true h1
    exact ⟨h2.1, h2.2.1, h2.2.2, by simpa using h⟩
  · cases h
theorem okF_val {f : Fld} (h : okF f = true) : valS f = (Oct.le f.data, true) := by
  have h1 := okF_fits h
  unfold valS
  rw [if_pos (by unfold fits; exact decide_eq_true ⟨h1.1, h1.2.1, h1.2.2.1⟩), h1.2.2.2]
  rfl
/-- The bits of the first k. -/
def sumK (ws : List Int) : Nat → Int
  | 0 => 0
  | k + 1 => sumK ws k + ws.getD k 0
def okW (w : Int) : Bool := decide (1 ≤ w ∧ w ≤ 64)
theorem okW_iff {w : Int} : okW w = true ↔ 1 ≤ w ∧ w ≤ 64 := by unfold okW; exact decide_eq_true_iff
theorem sumK_mono {ws : List Int} (h : ∀ i, i < ws.length → okW (ws.getD i 0) = true) : ∀ k, k ≤ ws.length → (k : Int) ≤ sumK ws k ∧ sumK ws k ≤ 64 * k
  | 0, _ => by simp [sumK]
  | k + 1, hk => by
    have h1 := sumK_mono h k (by omega)
    have h2 := okW_iff.1 (h k (by omega))
    rw [sumK]
    omega
theorem sumK_le {ws : List Int} (h : ∀ i, i < ws.length → okW (ws.getD i 0) = true) : ∀ k m, k + m ≤ ws.length → sumK ws k + m ≤ sumK ws (k + m)
  | k, 0, _ => by simp
  | k, m + 1, hk => by
    have h1 := sumK_le h k m (by omega)
    have h2 := okW_iff.1 (h (k + m) (by omega))
    rw [← Nat.add_assoc, sumK]
    omega
/-- All of them are right. -/
def okAll (ok : List Bool) : Bool := ok.all id
/-- What is wrong of bits in all: ErrArg 1, ErrBig 3. -/
def totS (ws : List Int) (ok : List Bool) : Int × Int := if ok.all id = true then (if 64 < sumK ws ws.length then (0, 3) else (sumK ws ws.length, 0)) else (0, 1)
def bitsOf (l : List Fld) : List Int := l.map (·.bits)
/-- The first k fields, laid down. -/
def packK (l : List Fld) (b : List UInt8) : Nat → List UInt8
  | 0 => b
  | k + 1 => putF (packK l b k) (sumK (bitsOf l) k).toNat (Oct.le (l.getD k Fld.zero).data) (l.getD k Fld.zero).bits.toNat
theorem packK_length (l : List Fld) (b : List UInt8) : ∀ k, (packK l b k).length = b.length
  | 0 => rfl
  | k + 1 => by rw [packK, putF_length, packK_length]
def packS (l : List Fld) : List UInt8 × Int :=
  if (totS (bitsOf l) (l.map okF)).2 = 0 then (packK l (List.replicate (bytesS (totS (bitsOf l) (l.map okF)).1).toNat 0) l.length, 0) else ([], (totS (bitsOf l) (l.map okF)).2)
/-- The field of a width at a place. -/
def fieldS (b : List UInt8) (p : Nat) (w : Int) : Fld := ⟨w, Oct.lb (bytesS w).toNat (lowF b p w.toNat)⟩
def unpK (b : List UInt8) (ws : List Int) : Nat → List Fld
  | 0 => []
  | k + 1 => unpK b ws k ++ [fieldS b (sumK ws k).toNat (ws.getD k 0)]
theorem unpK_length (b : List UInt8) (ws : List Int) : ∀ k, (unpK b ws k).length = k
  | 0 => rfl
  | k + 1 => by rw [unpK, List.length_append, unpK_length]; rfl
def unpackS (b : List UInt8) (ws : List Int) : List Fld × Int :=
  if (totS ws (ws.map okW)).2 = 0 then (if 8 * (b.length : Int) < (totS ws (ws.map okW)).1 then ([], 2) else (unpK b ws ws.length, 0)) else ([], (totS ws (ws.map okW)).2)
theorem all_get {ok : List Bool} (h : ok.all id = true) {i : Nat} (hi : i < ok.length) : ok.getD i false = true := by
  rw [List.all_eq_true] at h
  have := h ok[i] (List.getElem_mem hi)
  simpa [List.getD, hi] using this
theorem all_of {ok : List Bool} (h : ∀ i, i < ok.length → ok.getD i false = true) : ok.all id = true := by
  rw [List.all_eq_true]
  intro x hx
  obtain ⟨i, hi, rfl⟩ := List.getElem_of_mem hx
  have := h i hi
  simpa [List.getD, hi] using this
theorem all_not {ok : List Bool} {i : Nat} (hi : i < ok.length) (h : ok.getD i false = false) : ok.all id = false := by
  cases hb : ok.all id with
  | false => rfl
  | true => rw [all_get hb hi] at h; cases h
theorem bitsOf_getD (l : List Fld) (i : Nat) : (bitsOf l).getD i 0 = (l.getD i Fld.zero).bits := by
  unfold bitsOf
  simp only [List.getD, List.getElem?_map]
  cases l[i]? <;> rfl
theorem okF_getD (l : List Fld) (i : Nat) : (l.map okF).getD i false = okF (l.getD i Fld.zero) := by
  simp only [List.getD, List.getElem?_map]
  cases l[i]? <;> rfl
theorem okW_getD (ws : List Int) (i : Nat) : (ws.map okW).getD i false = okW (ws.getD i 0) := by
  simp only [List.getD, List.getElem?_map]
  cases ws[i]? <;> rfl
end Go.Proofs.YtbmocffnnlfnjaaGreat.Bt
/-
  Layer 30 as plain functions: the values of a mapping, and the values that bytes say.
  Conditions: none.
-/
namespace Go.Proofs.YtbmocffnnlfnjaaGreat.Mp
set_option linter.unusedVariables false
set_option linter.unusedSimpArgs false
open Ent Dc
/-- The field of a word. -/
def fld (D : Dic) (w : Nat) : Bt.Fld := ⟨(bt w : Int), (peekS D (ix w) (sb w)).getD []⟩
def fldsS (D : Dic) (ws : List Nat) : List Bt.Fld := ws.map (fld D)
def gatherS (D : Dic) (ws : List Nat) : List UInt8 × Int := if checkS D.l false ws ≠ 0 then ([], 4) else Bt.packS (fldsS D ws)
def widthsS (ws : List Nat) : List Int := ws.map fun w => (bt w : Int)
/-- The entry of a word. -/
def entOf (l : List En) (w : Nat) : En := l.getD ((findS l (ix w) (sb w)).getD 0) en0
def takes (l : List En) (ws : List Nat) (fs : List Bt.Fld) (k : Nat) : Bool := decide (valS (entOf l (ws.getD k 0)) (fs.getD k Bt.Fld.zero).data = 0)
def allTake (l : List En) (ws : List Nat) (fs : List Bt.Fld) : Nat → Bool
  | 0 => true
  | k + 1 => allTake l ws fs k && takes l ws fs k
def vlsK (ws : List Nat) (fs : List Bt.Fld) : Nat → List Vl
  | 0 => []
  | k + 1 => vlsK ws fs k ++ [⟨(ix (ws.getD k 0) : Int), (sb (ws.getD k 0) : Int), (fs.getD k Bt.Fld.zero).data⟩]
theorem vlsK_length (ws : List Nat) (fs : List Bt.Fld) : ∀ k, (vlsK ws fs k).length = k
  | 0 => rfl
  | k + 1 => by rw [vlsK, List.length_append, vlsK_length]; rfl
theorem vlsK_at (ws : List Nat) (fs : List Bt.Fld) : ∀ (k i : Nat), i < k → (vlsK ws fs k)[i]? = some ⟨(ix (ws.getD i 0) : Int), (sb (ws.getD i 0) : Int), (fs.getD i Bt.Fld.zero).data⟩
  | 0, _, h => absurd h (by omega)
  | k + 1, i, h => by
    rw [vlsK]
    rcases Nat.lt_or_ge i k with h1 | h1
    · rw [List.getElem?_append_left (by rw [vlsK_length]; exact h1)]
      exact vlsK_at ws fs k i h1
    · obtain rfl : i = k := by omega
      rw [List.getElem?_append_right (by rw [vlsK_length]; omega), vlsK_length]
      simp
def scatterS (l : List En) (ws : List Nat) (b : List UInt8) : List Vl × Int :=
  if checkS l true ws ≠ 0 then ([], 4)
  else if (Bt.unpackS b (widthsS ws)).2 ≠ 0 then ([], (Bt.unpackS b (widthsS ws)).2)
  else if allTake l ws (Bt.unpackS b (widthsS ws)).1 ws.length = true then (vlsK ws (Bt.unpackS b (widthsS ws)).1 ws.length, 0) else ([], 9)
theorem allTake_at {l : List En} {ws : List Nat} {fs : List Bt.Fld} : ∀ {k : Nat}, allTake l ws fs k = true → ∀ i, i < k → takes l ws fs i = true
  | 0, _, _, h => absurd h (by omega)
  | k + 1, h, i, hi => by
    rw [allTake, Bool.and_eq_true] at h
    rcases Nat.lt_or_ge i k with h1 | h1
    · exact allTake_at h.1 i h1
    · obtain rfl : i = k := by omega
      exact h.2
theorem allTake_of {l : List En} {ws : List Nat} {fs : List Bt.Fld} : ∀ {k : Nat}, (∀ i, i < k → takes l ws fs i = true) → allTake l ws fs k = true
  | 0, _ => rfl
  | k + 1, h => by rw [allTake, allTake_of (fun i hi => h i (by omega)), h k (by omega)]; rfl
theorem allTake_no {l : List En} {ws : List Nat} {fs : List Bt.Fld} {n k : Nat} (hk : k < n) (h : takes l ws fs k = false) : allTake l ws fs n = false := by
  cases e : allTake l ws fs n with
  | false => rfl
  | true => rw [allTake_at e k hk] at h; cases h
theorem checkF_each {l : List En} {inn : Bool} {all : List Nat} : ∀ (k i : Nat), checkF l inn all k i = 0 → ∀ j, i ≤ j → j < i + k → oneS l inn (all.getD j 0) = 0 ∧ sizeS (all.take (j + 1)) ≤ 64
  | 0, i, _, j, h1, h2 => by omega
  | k + 1, i, h, j, h1, h2 => by
    rw [checkF] at h
    split at h
    · rename_i ho; exact absurd h ho
    · rename_i ho
      split at h
      · simp at h
      · rename_i hs
        rcases Nat.eq_or_lt_of_le h1 with h3 | h3
        · subst h3
          exact ⟨by simpa using ho, by omega⟩
        · exact checkF_each k (i + 1) h j (by omega) (by omega)
/-- A mapping that can be. -/
theorem check_each {l : List En} {inn : Bool} {ws : List Nat} (h : checkS l inn ws = 0) : ws.length ≤ 8 ∧ ∀ i, i < ws.length → oneS l inn (ws.getD i 0) = 0 ∧ sizeS (ws.take (i + 1)) ≤ 64 := by
  unfold checkS at h
  split at h
  · simp at h
  · exact ⟨by omega, fun i hi => checkF_each ws.length 0 h i (by omega) (by omega)⟩
theorem check_size {l : List En} {inn : Bool} {ws : List Nat} (h : checkS l inn ws = 0) : sizeS ws ≤ 64 := by
  obtain ⟨h1, h2⟩ := check_each h
  rcases Nat.eq_zero_or_pos ws.length with h0 | h0
  · have : ws = [] := List.eq_nil_of_length_eq_zero h0
    subst this
    decide
  · have := (h2 (ws.length - 1) (by omega)).2
    rwa [show ws.length - 1 + 1 = ws.length by omega, List.take_length] at this
/-- A word that can be mapped. -/
theorem one_found {l : List En} {inn : Bool} {w : Nat} (h : oneS l inn w = 0) : ∃ k, findS l (ix w) (sb w) = some k ∧ entOf l w = l.getD k en0 ∧ (l.getD k en0).map = true ∧ ((Ty.kd (l.getD k en0).type).bits : Int) = (bt w : Int) ∧ (if inn = true then writS (l.getD k en0) else readS (l.getD k en0)) = 0 := by
  unfold oneS at h
  unfold entOf
  cases hf : findS l (ix w) (sb w) with
  | none =>
    rw [hf] at h
    dsimp only at h
    split at h <;> simp at h
  | some k =>
    rw [hf] at h
    dsimp only at h
    refine ⟨k, rfl, rfl, ?_⟩
    by_cases hc : (l.getD k en0).map = false ∨ ((Ty.kd (l.getD k en0).type).bits : Int) ≠ (bt w : Int) ∨ (if inn = true then writS (l.getD k en0) else readS (l.getD k en0)) ≠ 0
    · rw [if_pos hc] at h; simp at h
    · refine ⟨?_, ?_, ?_⟩
      · cases hm : (l.getD k en0).map with
        | true => rfl
        | false => exact absurd (Or.inl hm) hc
      · exact Classical.not_not.1 fun hx => hc (Or.inr (Or.inl hx))
      · exact Classical.not_not.1 fun hx => hc (Or.inr (Or.inr hx))
theorem widths_len (ws : List Nat) : (widthsS ws).length = ws.length := by unfold widthsS; rw [List.length_map]
theorem flds_len (D : Dic) (ws : List Nat) : (fldsS D ws).length = ws.length := by unfold fldsS; rw [List.length_map]
theorem widths_take (ws : List Nat) {k : Nat} (hk : k < ws.length) : widthsS (ws.take (k + 1)) = widthsS (ws.take k) ++ [(bt (ws.getD k 0) : Int)] := by
  unfold widthsS
  rw [List.take_succ_eq_append_getElem hk, List.map_append, List.getD_eq_getElem?_getD, List.getElem?_eq_getElem hk]
  rfl
theorem flds_take (D : Dic) (ws : List Nat) {k : Nat} (hk : k < ws.length) : fldsS D (ws.take (k + 1)) = fldsS D (ws.take k) ++ [fld D (ws.getD k 0)] := by
  unfold fldsS
  rw [List.take_succ_eq_append_getElem hk, List.map_append, List.getD_eq_getElem?_getD, List.getElem?_eq_getElem hk]
  rfl
theorem bt_le (w : Nat) : bt w ≤ 255 := by unfold bt; omega
theorem getD_bound {L : List (List UInt8)} (h : ∀ v ∈ L, v.length ≤ 1000000) (k : Nat) : (L.getD k []).length ≤ 1000000 := by
  rw [List.getD_eq_getElem?_getD]
  cases hi : L[k]? with
  | none => simp
  | some x => exact h _ (List.mem_of_getElem? hi)
theorem peek_bound {D : Dic} (h : ∀ v ∈ D.v, v.length ≤ 1000000) (x y : Int) : ((peekS D x y).getD []).length ≤ 1000000 := by
  unfold peekS
  cases findS D.l x y with
  | none => simp
  | some k => exact getD_bound h k
theorem flds_bound {D : Dic} (h : ∀ v ∈ D.v, v.length ≤ 1000000) (ws : List Nat) : ∀ f ∈ fldsS D ws, f.data.length ≤ 1000000 ∧ f.bits ≤ 255 := by
  intro f hf
  unfold fldsS at hf
  obtain ⟨w, _, rfl⟩ := List.mem_map.1 hf
  have := bt_le w
  exact ⟨peek_bound h _ _, by show (bt w : Int) ≤ 255; omega⟩
theorem unpK_small (b : List UInt8) (W : List Int) (hW : ∀ x ∈ W, x ≤ 255) : ∀ k, ∀ f ∈ Bt.unpK b W k, f.data.length ≤ 32
  | 0, f, hf => by simp [Bt.unpK] at hf
  | k + 1, f, hf => by
    rw [Bt.unpK, List.mem_append] at hf
    rcases hf with hf | hf
    · exact unpK_small b W hW k f hf
    · simp only [List.mem_cons, List.not_mem_nil, or_false] at hf
      subst hf
      have hw : W.getD k 0 ≤ 255 := by
        rw [List.getD_eq_getElem?_getD]
        cases hi : W[k]? with
        | none => simp
        | some x => exact hW _ (List.mem_of_getElem? hi)
      unfold Bt.fieldS
      dsimp only
      rw [Oct.lb_length]
      unfold Bt.bytesS
      split <;> omega
theorem unpack_small (b : List UInt8) (W : List Int) (hW : ∀ x ∈ W, x ≤ 255) (i : Nat) : ((Bt.unpackS b W).1.getD i Bt.Fld.zero).data.length ≤ 32 := by
  rw [List.getD_eq_getElem?_getD]
  cases hi : (Bt.unpackS b W).1[i]? with
  | none => simp [Bt.Fld.zero]
  | some f =>
    have hm := List.mem_of_getElem? hi
    unfold Bt.unpackS at hm
    split at hm
    · split at hm
      · simp at hm
      · exact unpK_small b W hW _ f hm
    · simp at hm
/-- The values that bytes say are short. -/
theorem scatter_small (l : List En) (ws : List Nat) (b : List UInt8) : ∀ v ∈ (scatterS l ws b).1, v.data.length ≤ 32 := by
  intro v hv
  unfold scatterS at hv
  split at hv
  · simp at hv
  · split at hv
    · simp at hv
    · split at hv
      · dsimp only at hv
        obtain ⟨i, hi, rfl⟩ := List.getElem_of_mem hv
        have h1 := vlsK_at ws (Bt.unpackS b (widthsS ws)).1 ws.length i (by rwa [vlsK_length] at hi)
        rw [List.getElem?_eq_getElem hi] at h1
        injection h1 with h1
        rw [h1]
        exact unpack_small b (widthsS ws) (fun x hx => by
          unfold widthsS at hx
          obtain ⟨w, _, rfl⟩ := List.mem_map.1 hx
          have := bt_le w
          omega) i
      · simp at hv
end Go.Proofs.YtbmocffnnlfnjaaGreat.Mp
/-
  Words on memory: a slice that reads as bytes, a row of bytes of the call's own, and what keeps them.
  Conditions: none.
-/
namespace Go.Proofs.YtbmocffnnlfnjaaGreat
set_option linter.unusedVariables false
set_option linter.unusedSimpArgs false
open Go.RowKit

/-- A byte as a cell. -/
def bv (c : UInt8) : Value := .int .u8 (c.toNat : Int)

/-- The slice '.slice A n c' reads as the bytes l; its cells lie below block B. -/
structure RB (w : World) (B : Nat) (A : Option Addr) (n c : Nat) (l : List UInt8) : Prop where
  len : l.length = n
  le : n ≤ c
  cap : c ≤ 9223372036854775807
  nil : A = none → n = 0 ∧ c = 0
  at_ : 0 < n → ∃ b o, A = some ⟨b, o, none⟩ ∧ b < B ∧ ∀ i, i < n → w.cell? ⟨b, o + i, none⟩ = some (.int .u8 ((l.getD i 0).toNat : Int))

/-- What is of the call's own: a row of bytes from block 'base' on. -/
def OB (w : World) (base : Nat) (A : Option Addr) (n c : Nat) (l : List UInt8) : Prop := w.ownsRow base 5 1 (.slice A n c) n (l.map bv)

theorem byte_lt (c : UInt8) : c.toNat < 256 := c.toNat_lt
theorem getD_byte (l : List UInt8) (i : Nat) : ((l.getD i 0).toNat : Int) < 256 := by have := (l.getD i 0).toNat_lt; omega

theorem byte_beq (x y : UInt8) : ((x.toNat : Int) == (y.toNat : Int)) = (x == y) := by
  rw [Bool.eq_iff_iff, beq_iff_eq, beq_iff_eq]
  exact ⟨fun h => UInt8.toNat_inj.1 (by omega), fun h => by rw [h]⟩
theorem u8_xor_bytes (x y : UInt8) : bits .xor .u8 (x.toNat : Int) (y.toNat : Int) = ((x ^^^ y).toNat : Int) := by
  rw [u8_xor_nat _ _ x.toNat_lt y.toNat_lt, UInt8.toNat_xor]
theorem u8_or_bytes (x y : UInt8) : bits .or .u8 (x.toNat : Int) (y.toNat : Int) = ((x ||| y).toNat : Int) := by
  rw [u8_or_nat _ _ x.toNat_lt y.toNat_lt, UInt8.toNat_or]
theorem u8_and_bytes (x y : UInt8) : bits .and .u8 (x.toNat : Int) (y.toNat : Int) = ((x &&& y).toNat : Int) := by
  rw [u8_and_nat _ _ x.toNat_lt y.toNat_lt, UInt8.toNat_and]

section
variable {w w' : World} {B B' n c : Nat} {A : Option Addr} {l : List UInt8}
theorem RB.none_ : RB w B none 0 0 [] := ⟨rfl, Nat.le_refl _, by omega, fun _ => ⟨rfl, rfl⟩, fun h => absurd h (by omega)⟩
theorem RB.keep (h : RB w B A n c l) (hk : ∀ p : Addr, p.block < B → w'.cell? p = w.cell? p) : RB w' B A n c l :=
  ⟨h.len, h.le, h.cap, h.nil, fun hn => by
    obtain ⟨b, o, e, hb, hc⟩ := h.at_ hn
    exact ⟨b, o, e, hb, fun i hi => (hk _ hb).trans (hc i hi)⟩⟩
theorem RB.more (h : RB w B A n c l) (hB : B ≤ B') : RB w B' A n c l :=
  ⟨h.len, h.le, h.cap, h.nil, fun hn => by
    obtain ⟨b, o, e, hb, hc⟩ := h.at_ hn
    exact ⟨b, o, e, by omega, hc⟩⟩
theorem RB.below (h : RB w B A n c l) (hb : Below B w w') : RB w' B A n c l := h.keep fun _ hp => hb.cell hp
theorem RB.alloc (h : RB w B A n c l) (hB : B ≤ w.heap.size) (o : Obj) : RB (w.alloc o) B A n c l := h.keep fun p hp => World.cell?_alloc_lt w o p (by omega)
theorem RB.drew (h : RB w B A n c l) : RB w.drew B A n c l := ⟨h.len, h.le, h.cap, h.nil, h.at_⟩
theorem RB.drewN (h : RB w B A n c l) (k : Nat) : RB (w.drewN k) B A n c l := ⟨h.len, h.le, h.cap, h.nil, h.at_⟩
theorem RB.lt (h : RB w B A n c l) : n ≤ 9223372036854775807 := Nat.le_trans h.le h.cap
/-- 'x[:k]' -/
theorem RB.take (h : RB w B A n c l) {k : Nat} (hk : k ≤ n) : RB w B A k c (l.take k) :=
  ⟨by rw [List.length_take, h.len]; omega, Nat.le_trans hk h.le, h.cap, fun e => ⟨by have := (h.nil e).1; omega, (h.nil e).2⟩, fun hn => by
    obtain ⟨b, o, e, hb, hc⟩ := h.at_ (by omega)
    refine ⟨b, o, e, hb, fun i hi => ?_⟩
    rw [hc i (by omega)]
    simp [List.getD, List.getElem?_take, hi]⟩
/-- 'x[k:]', as the model has it: at the capacity's end the address stays. -/
theorem RB.drop (h : RB w B A n c l) {k : Nat} (hk : k ≤ n) : RB w B (if c = k then A else A.map (·.add k)) (n - k) (c - k) (l.drop k) :=
  ⟨by rw [List.length_drop, h.len], by have := h.le; omega, by have := h.cap; omega, fun e => by
    have hA : A = none := by
      split at e
      · exact e
      · simpa using e
    have := h.nil hA; omega, fun hn => by
    obtain ⟨b, o, rfl, hb, hc⟩ := h.at_ (by omega)
    rw [if_neg (by have := h.le; omega)]
    refine ⟨b, o + k, by simp [Addr.add_lit], hb, fun i hi => ?_⟩
    rw [Nat.add_assoc, hc (k + i) (by omega)]
    simp [List.getD, List.getElem?_drop]⟩
theorem OB.rb {base : Nat} (h : OB w base A n c l) : RB w w.heap.size A n c l := by
  obtain ⟨hl, hr⟩ := h
  have hlen : l.length = n := by simpa using hl
  rcases hr with ⟨hv, hn⟩ | ⟨g, cap, cur, hv, hb, hg, hnc, hcm, hcs, ht⟩
  · injection hv with h1 h2 h3
    subst h1 h2 h3
    exact ⟨hlen, Nat.le_refl _, by omega, fun _ => ⟨rfl, rfl⟩, fun h => absurd h (by omega)⟩
  · injection hv with h1 h2 h3
    subst h1 h3
    have hcap : c ≤ 9223372036854775807 := by simpa [maxLen] using hcm
    refine ⟨hlen, hnc, hcap, (fun e => by cases e), fun hn => ⟨g, 0, rfl, (Array.getElem?_eq_some_iff.1 hg).1, fun i hi => ?_⟩⟩
    rw [Nat.zero_add, cell_of_row w g i cur _ (0, 0) hg]
    have : (l.map bv)[i]? = cur.toList[i]? := by rw [← ht, List.getElem?_take, if_pos (by omega)]
    rw [← Array.getElem?_toList, ← this]
    simp [List.getD, List.getElem?_eq_getElem (show i < l.length by omega), bv]
theorem OB.more {base base' : Nat} (h : OB w base A n c l) (hb : base' ≤ base) : OB w base' A n c l := by
  refine ⟨h.1, ?_⟩
  rcases h.2 with h2 | ⟨g, cap, cur, hv, hg, r⟩
  · exact .inl h2
  · exact .inr ⟨g, cap, cur, hv, by omega, r⟩
/-- What is owned is kept where nothing below the heap's size turns. -/
theorem OB.below {base : Nat} (h : OB w base A n c l) (hb : Below w.heap.size w w') : OB w' base A n c l := by
  refine ⟨h.1, ?_⟩
  rcases h.2 with h2 | ⟨g, cap, cur, hv, hg, hh, r⟩
  · exact .inl h2
  · exact .inr ⟨g, cap, cur, hv, hg, (hb.block g (Array.getElem?_eq_some_iff.1 hh).1).trans hh, r⟩
theorem OB.below_of {base B : Nat} (h : OB w base A n c l) (hb : Below B w w') (hB : ∀ k, (Value.slice A n c).ownBlock = some k → k < B) : OB w' base A n c l := by
  refine ⟨h.1, ?_⟩
  rcases h.2 with h2 | ⟨g, cap, cur, hv, hg, hh, r⟩
  · exact .inl h2
  · exact .inr ⟨g, cap, cur, hv, hg, (hb.block g (hB g (by rw [hv]; rfl))).trans hh, r⟩
/-- 'string(x)' -/
theorem RB.conv {P : Program} (h : RB w B A n c l) (src e : TypeId) (hs : P.underlying src = some (.slice e)) (he : P.underlying e = some (.int .u8)) :
    ∀ dst, P.underlying dst = some .string → (convert src dst (.slice A n c)).run P w = .ok (.string ⟨l.toArray⟩) w := by
  intro dst hd
  by_cases hn : 0 < n
  · obtain ⟨b, o, rfl, hb, hc⟩ := h.at_ hn
    have := run_convert_bytes_arg (P := P) w src e hs he b o n c (l.map fun x => (x.toNat : Int)) (by simpa using h.len) (fun i hi => by
      rw [hc i hi]
      simp [List.getD, List.getElem?_eq_getElem (show i < l.length by rw [h.len]; exact hi)]) dst hd
    rw [this]
    congr 2
    simp [strOfNums, List.map_map, Function.comp_def]
  · obtain rfl : n = 0 := by omega
    have hl : l = [] := List.eq_nil_of_length_eq_zero h.len
    subst hl
    cases A with
    | none => exact run_convert_bytes_nil w src e hs he _ _ dst hd
    | some ad =>
      have := run_bytesToString (P := P) w ad 0 c [] (by simp [loadCells, loadCellsFrom])
      rw [run_convert_bytes_string w src dst e _ 0 c hs he hd, this]
      rfl
end

theorem bcell {W w1 : World} (hb : Below W.heap.size W w1) : (∀ b o, b < W.heap.size → w1.cell? ⟨b, o, none⟩ = W.cell? ⟨b, o, none⟩) ∧ (∀ b o, b < W.heap.size → w1.frozen? ⟨b, o, none⟩ = W.frozen? ⟨b, o, none⟩) :=
  ⟨fun b o h => hb.cell (p := ⟨b, o, none⟩) h, fun b o h => hb.frozen (p := ⟨b, o, none⟩) h⟩

theorem ret_int {k : IntKind} {a b : Int} (h : a = b) : Ending.returned (.int k a) = .returned (.int k b) := by rw [h]
theorem ret_bool {a b : Bool} (h : a = b) : Ending.returned (.bool a) = .returned (.bool b) := by rw [h]
theorem alloc_one (w : World) (o : Obj) : Below w.heap.size w (w.alloc o) := (Below.refl _ _).alloc (Nat.le_refl _) o
theorem alloc_two (w : World) (o o' : Obj) : Below w.heap.size w ((w.alloc o).alloc o') := (alloc_one w o).alloc (by simp) o'
theorem below_drewN {B : Nat} {a w : World} (h : Below B a w) (n : Nat) : Below B a (w.drewN n) := ⟨h.os, h.tape, h.output, h.size, h.block⟩
/-- Two steps, each of which leaves alone what was there when it began. -/
theorem below_step {B : Nat} {a b c : World} (h : Below B a b) (k : Below b.heap.size b c) (hB : B ≤ a.heap.size) : Below B a c :=
  h.trans (k.mono (Nat.le_trans hB h.size))

end Go.Proofs.YtbmocffnnlfnjaaGreat
/-
  Layer 11 as plain functions: a word of a PDO's Id.
  Conditions: none.
-/
namespace Go.Proofs.YtbmocffnnlfnjaaGreat.Cob
set_option linter.unusedVariables false
set_option linter.unusedSimpArgs false
/-- Its form is wrong. -/
def bad (w : Nat) : Bool := decide (2048 ≤ w % 1073741824)
def off (w : Nat) : Bool := decide (2147483648 ≤ w)
def noR (w : Nat) : Bool := decide (1073741824 ≤ w % 2147483648)
def id (w : Nat) : Nat := w % 2048
/-- Ids that may not be given. -/
def restr (n : Int) : Bool := decide (n < 128 ∨ 2047 < n ∨ (257 ≤ n ∧ n ≤ 384) ∨ (1409 ≤ n ∧ n ≤ 1535) ∨ (1537 ≤ n ∧ n ≤ 1663) ∨ (1760 ≤ n ∧ n ≤ 1791) ∨ 1792 < n)
/-- Why a word can not be a PDO's. -/
def place (w : Nat) : Int := if bad w = true then 100925507 else if off w = false ∧ restr (id w : Int) = true then 100925507 else 0
/-- The Id of a PDO; 0: it is off. -/
def pdo (w : Nat) : Nat := if off w = true then 0 else id w
theorem place_bad {w : Nat} (h : place w = 0) : bad w = false := by
  unfold place at h
  split at h
  · simp at h
  · rename_i hb
    simpa using hb
theorem pdo_lt (w : Nat) : pdo w < 2048 := by unfold pdo id; split <;> omega
theorem andNot_top (x : Nat) (hx : x < 4294967296) : bits .andNot .u32 (x : Int) 3221225472 = ((x % 1073741824 : Nat) : Int) := by
  show IntKind.u32.wrap ((BitVec.ofInt 32 (x : Int) &&& ~~~BitVec.ofInt 32 3221225472).toNat : Int) = _
  have h1 : (BitVec.ofInt 32 (x : Int)).toNat = x := by simp [BitVec.toNat_ofInt]; omega
  have h2 : (~~~BitVec.ofInt 32 3221225472).toNat = 2 ^ 30 - 1 := by decide
  rw [BitVec.toNat_and, h1, h2, Nat.and_two_pow_sub_one_eq_mod]
  simp [IntKind.wrap, IntKind.bits, IntKind.signed]
  omega
theorem and_bit (x n : Nat) (hx : x < 4294967296) (hn : n < 32) : bits .and .u32 (x : Int) ((2 ^ n : Nat) : Int) = (((x / 2 ^ n % 2) * 2 ^ n : Nat) : Int) := by
  have hp : 2 ^ n ≤ 2 ^ 31 := Nat.pow_le_pow_right (by decide) (by omega)
  have := u32_and_nat x (2 ^ n) hx (by omega)
  rw [this]
  congr 1
  apply Nat.eq_of_testBit_eq
  intro i
  rw [Nat.testBit_and, Nat.testBit_two_pow, Nat.testBit_mul_two_pow]
  rcases Nat.lt_trichotomy n i with h | h | h
  · have h1 : x / 2 ^ n % 2 < 2 ^ (i - n) := by
      have : 2 ^ 1 ≤ 2 ^ (i - n) := Nat.pow_le_pow_right (by decide) (by omega)
      omega
    rw [Nat.testBit_lt_two_pow h1, decide_eq_false (show ¬ n = i by omega)]
    simp
  · subst h
    rw [Nat.sub_self, Nat.testBit_zero, Nat.testBit_eq_decide_div_mod_eq]
    simp
  · rw [decide_eq_false (show ¬ n = i by omega), decide_eq_false (show ¬ n ≤ i by omega)]
    simp
theorem and_off (x : Nat) (hx : x < 4294967296) : (bits .and .u32 (x : Int) 2147483648 != 0) = off x := by
  have := and_bit x 31 hx (by decide)
  rw [show ((2 ^ 31 : Nat) : Int) = 2147483648 by decide] at this
  rw [this]
  unfold off
  by_cases h : 2147483648 ≤ x
  · rw [decide_eq_true h, show x / 2 ^ 31 % 2 = 1 by omega]
    decide
  · rw [decide_eq_false h, show x / 2 ^ 31 % 2 = 0 by omega]
    decide
theorem and_noR (x : Nat) (hx : x < 4294967296) : (bits .and .u32 (x : Int) 1073741824 != 0) = noR x := by
  have := and_bit x 30 hx (by decide)
  rw [show ((2 ^ 30 : Nat) : Int) = 1073741824 by decide] at this
  rw [this]
  unfold noR
  by_cases h : 1073741824 ≤ x % 2147483648
  · rw [decide_eq_true h, show x / 2 ^ 30 % 2 = 1 by omega]
    decide
  · rw [decide_eq_false h, show x / 2 ^ 30 % 2 = 0 by omega]
    decide
end Go.Proofs.YtbmocffnnlfnjaaGreat.Cob
