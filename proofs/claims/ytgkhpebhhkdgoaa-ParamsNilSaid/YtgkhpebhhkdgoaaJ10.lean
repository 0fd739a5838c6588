/-
  Texts joined: DicTwo, MapPure, BitPure, BitFld, MapCPure, CobPure, RpdPure, TpdPure, PrmPure, MapWord, MapFind, CellWords.
  Conditions: none.
-/
import Derived.Test.YtgkhpebhhkdgoaaJ01
import Derived.Test.YtgkhpebhhkdgoaaJ02
import Derived.Test.YtgkhpebhhkdgoaaJ03
import Derived.Test.YtgkhpebhhkdgoaaJ04
import Derived.Test.YtgkhpebhhkdgoaaJ07
import Derived.Test.YtgkhpebhhkdgoaaJ08
import Derived.Test.YtgkhpebhhkdgoaaJ09
import Derived.Test.YtgkhpebhhkdgoaaProg
/-
  A dictionary of the program and one of the reference, beside one another.
  Conditions: none.
-/
namespace Go.Proofs.Ytgkhpebhhkdgoaa.Dc
set_option linter.unusedVariables false
set_option linter.unusedSimpArgs false
/-- Values poked, one after the other. -/
def pokesS (D : Dic) (l : List Vl) : Dic := l.foldl (fun D v => pokeS D v.index v.sub v.data) D
theorem pokes_take (D : Dic) (l : List Vl) {k : Nat} (hk : k < l.length) : pokesS D (l.take (k + 1)) = pokeS (pokesS D (l.take k)) (l.getD k ⟨0, 0, []⟩).index (l.getD k ⟨0, 0, []⟩).sub (l.getD k ⟨0, 0, []⟩).data := by
  unfold pokesS
  rw [List.take_succ_eq_append_getElem hk, List.foldl_append, List.getD_eq_getElem?_getD, List.getElem?_eq_getElem hk]
  rfl
theorem poke_l (D : Dic) (x y : Int) (b : List UInt8) : (pokeS D x y b).l = D.l := by
  unfold pokeS
  split
  · rfl
  · split <;> rfl
theorem pokes_l : ∀ (l : List Vl) (D : Dic), (pokesS D l).l = D.l
  | [], _ => rfl
  | v :: l, D => by
    show (pokesS (pokeS D v.index v.sub v.data) l).l = D.l
    rw [pokes_l l, poke_l]
/-- What its values fulfil: as long as is let, and right. -/
structure Fine (D : Dic) : Prop where
  len : D.v.length = D.l.length
  sm : ∀ v ∈ D.v, v.length ≤ 2000
  ok : ∀ k, k < D.l.length → Ent.valS (D.l.getD k en0) (D.v.getD k []) = 0
theorem getD_set {α : Type} (L : List α) (i k : Nat) (b d : α) : (L.set i b).getD k d = if i = k ∧ k < L.length then b else L.getD k d := by
  rw [List.getD_eq_getElem?_getD, List.getElem?_set, List.getD_eq_getElem?_getD]
  by_cases h : i = k
  · subst h
    by_cases h2 : i < L.length
    · simp [h2]
    · rw [if_pos rfl, if_neg h2, if_neg (by omega), List.getElem?_eq_none (by omega)]
  · simp [h]
theorem Fine.poke {D : Dic} (h : Fine D) (x y : Int) {b : List UInt8} (hb : b.length ≤ 2000) : Fine (pokeS D x y b) := by
  unfold pokeS
  cases hf : findS D.l x y with
  | none => exact h
  | some k =>
    dsimp only
    split
    · rename_i hv
      refine ⟨by rw [List.length_set]; exact h.len, fun v hv' => ?_, fun i hi => ?_⟩
      · rcases List.mem_or_eq_of_mem_set hv' with h1 | h1
        · exact h.sm v h1
        · subst h1; exact hb
      · dsimp only at hi ⊢
        rw [getD_set]
        split
        · rename_i h2
          rw [← h2.1]
          exact hv
        · exact h.ok i hi
    · exact h
theorem Fine.pokes {vs : List Vl} (hb : ∀ v ∈ vs, v.data.length ≤ 2000) : ∀ {D : Dic}, Fine D → Fine (pokesS D vs) := by
  induction vs with
  | nil => exact fun h => h
  | cons v l ih => exact fun h => ih (fun x hx => hb x (List.mem_cons_of_mem _ hx)) (h.poke _ _ (hb v (List.mem_cons_self ..)))
/-- A new dictionary's values. -/
theorem Fine.new {es : List Ent.En} (h : (newS es).1 = 0) (hs : ∀ e ∈ es, e.dflt.length ≤ 2000) : Fine ⟨es, es.map (·.dflt)⟩ := by
  obtain ⟨_, _, h3⟩ := new_ok h
  refine ⟨by simp, fun v hv => ?_, fun k hk => ?_⟩
  · obtain ⟨e, he, rfl⟩ := List.mem_map.1 hv
    exact hs e he
  · dsimp only at hk ⊢
    have e1 : (es.map (·.dflt)).getD k [] = (es.getD k en0).dflt := by
      simp [List.getD, List.getElem?_map, List.getElem?_eq_getElem hk]
    rw [e1]
    have hm : es.getD k en0 ∈ es := by
      rw [List.getD_eq_getElem?_getD, List.getElem?_eq_getElem hk]
      exact List.getElem_mem hk
    exact (Ent.right_iff (h3 _ hm)).2.2.2.2.2.2.2.2
end Go.Proofs.Ytgkhpebhhkdgoaa.Dc
namespace Go.Proofs.Ytgkhpebhhkdgoaa
set_option linter.unusedVariables false
set_option linter.unusedSimpArgs false
open Go.RowKit
section
variable {t : TypeId} {F : Nat → Prop} {w w' : World} {g gv lc vc : Nat} {lA vA : Option Addr} {xs vs : List Value} {D : Dc.Dic}
/-- Its values' row, where it is, or a place that is not there. -/
theorem DRt.fix (h : DRt t w F g gv lA lc vA vc xs vs D) : ∃ gv2, DRt t w F g gv2 lA lc vA vc xs vs D ∧ (F gv2 ∨ gv2 = w.heap.size) := by
  cases hk : (Value.slice vA D.l.length vc).ownBlock with
  | some k =>
    have := h.at_ k hk
    exact ⟨gv, h, .inl this.2⟩
  | none =>
    have h0 : D.l.length = 0 := by
      rcases Nat.eq_zero_or_pos D.l.length with h0 | h0
      · exact h0
      · obtain ⟨q, e, _, _⟩ := h.own.head h0
        subst e
        simp [Value.ownBlock] at hk
    have hl : D.l = [] := List.eq_nil_of_length_eq_zero h0
    have hv : D.v = [] := List.eq_nil_of_length_eq_zero (by rw [h.len, h0])
    refine ⟨w.heap.size, { fg := h.fg, ne := (by have := h.blk.lt; omega), blk := h.blk, row := ⟨h.row.len, h.row.le, h.row.cap, h.row.nil, fun h1 => absurd h1 (by omega)⟩, rows := ⟨h.rows.1, fun i f hf => by rw [hl] at hf; simp at hf⟩, own := h.own, at_ := (fun k hk2 => by rw [hk] at hk2; cases hk2), vals := ⟨h.vals.1, fun i f hf => by rw [hv] at hf; simp at hf⟩, len := h.len, ord := h.ord, few := h.few, right := h.right }, .inr rfl⟩
/-- Blocks that are there. -/
theorem DRt.cut (h : DRt t w F g gv lA lc vA vc xs vs D) : DRt t w (fun q => F q ∧ q < w.heap.size) g gv lA lc vA vc xs vs D := h.mono fun _ hb hf => ⟨hf, hb⟩
end
/-- A dictionary, its blocks from 'base' on. -/
def One (t : TypeId) (w : World) (base g : Nat) (F : Nat → Prop) (D : Dc.Dic) : Prop := ∃ (gv lc vc : Nat) (la : Addr) (vA : Option Addr) (xs vs : List Value), DRt t w F g gv (some la) lc vA vc xs vs D ∧ ∀ q, F q → base ≤ q ∧ q < w.heap.size
def OneR (t : TypeId) (w : World) (base g : Nat) (F : Nat → Prop) (D : Dc.Dic) : Prop := ∃ (gv lc vc : Nat) (lA vA : Option Addr) (xs vs : List Value), DRt t w F g gv lA lc vA vc xs vs D ∧ ∀ q, F q → base ≤ q ∧ q < w.heap.size
section
variable {t : TypeId} {F G : Nat → Prop} {w w' : World} {base g : Nat} {D : Dc.Dic}
theorem One.r (h : One t w base g F D) : OneR t w base g F D := by
  obtain ⟨gv, lc, vc, la, vA, xs, vs, h1, h2⟩ := h
  exact ⟨gv, lc, vc, some la, vA, xs, vs, h1, h2⟩
theorem One.mv (h : One t w base g F D) (hm : Mv G w w') (hd : ∀ b, b < w.heap.size → F b → ¬ G b) : One t w' base g F D := by
  obtain ⟨gv, lc, vc, la, vA, xs, vs, h1, h2⟩ := h
  exact ⟨gv, lc, vc, la, vA, xs, vs, h1.mv hm hd, fun q hq => by have := h2 q hq; have := hm.size; omega⟩
theorem OneR.mv (h : OneR t w base g F D) (hm : Mv G w w') (hd : ∀ b, b < w.heap.size → F b → ¬ G b) : OneR t w' base g F D := by
  obtain ⟨gv, lc, vc, la, vA, xs, vs, h1, h2⟩ := h
  exact ⟨gv, lc, vc, la, vA, xs, vs, h1.mv hm hd, fun q hq => by have := h2 q hq; have := hm.size; omega⟩
theorem One.below (h : One t w base g F D) (hb : Below w.heap.size w w') : One t w' base g F D := h.mv (Mv.of_new hb fun _ => False) fun _ _ _ h => h
theorem OneR.below (h : OneR t w base g F D) (hb : Below w.heap.size w w') : OneR t w' base g F D := h.mv (Mv.of_new hb fun _ => False) fun _ _ _ h => h
theorem One.lt (h : One t w base g F D) : ∀ q, F q → base ≤ q ∧ q < w.heap.size := by
  obtain ⟨gv, lc, vc, la, vA, xs, vs, h1, h2⟩ := h; exact h2
theorem OneR.lt (h : OneR t w base g F D) : ∀ q, F q → base ≤ q ∧ q < w.heap.size := by
  obtain ⟨gv, lc, vc, la, vA, xs, vs, h1, h2⟩ := h; exact h2
end
section
variable {F F' : Nat → Prop} {w : World} {base g n c B : Nat} {A : Option Addr} {b : List UInt8} {D : Dc.Dic}
/-- What a poke does to a dictionary of the program. -/
theorem One.poke (h : One 73 w base g F D) (hbase : base ≤ w.heap.size) (x y : Int) (hb : RB w B A n c b) (hB : B ≤ w.heap.size) (hn : n < 140737488355328) :
    Calls Try.prog 22 #[.pointer (some ⟨g, 0, none⟩), .int .i64 x, .int .i64 y, .slice A n c] w fun e w' => e = .returned (.int .u32 (Dc.mayS D.l true x y b)) ∧ Mv F w w' ∧ Below base w w' ∧ One 73 w' base g (fun q => F q ∨ (w.heap.size ≤ q ∧ q < w'.heap.size)) (Dc.pokeS D x y b) := by
  obtain ⟨gv, lc, vc, la, vA, xs, vs, h1, h2⟩ := h
  obtain ⟨gv2, h3, h4⟩ := h1.fix
  refine (dPoke_any x y h3 hb hB hn).mono ?_
  rintro e w' ⟨he, hm, vs', hd⟩
  have hm' : Mv F w w' := hm.mono fun q hq e => by
    rcases h4 with h4 | h4
    · rw [e]; exact h4
    · omega
  have hlow : base ≤ gv2 := by
    rcases h4 with h4 | h4
    · exact (h2 _ h4).1
    · omega
  refine ⟨he, hm', hm.below hbase fun q e => by subst e; exact hlow, gv2, lc, vc, la, vA, xs, vs', hd, fun q hq => ?_⟩
  have hz := hm.size
  rcases hq with hq | hq
  · have := h2 q hq; omega
  · omega
end
end Go.Proofs.Ytgkhpebhhkdgoaa
/-
  Layer 30 as plain functions: words of a mapping.
  Conditions: none.
-/
namespace Go.Proofs.Ytgkhpebhhkdgoaa.Mp
set_option linter.unusedVariables false
set_option linter.unusedSimpArgs false
open Ent Dc
def ix (w : Nat) : Nat := w / 65536
def sb (w : Nat) : Nat := w / 256 % 256
def bt (w : Nat) : Nat := w % 256
def joinS (a b c : Int) : Int × Int := if a < 0 ∨ 65535 < a ∨ b < 0 ∨ 255 < b ∨ c < 0 ∨ 255 < c then (0, 9) else (65536 * a + 256 * b + c, 0)
def sizeS (l : List Nat) : Nat := (l.map bt).sum
/-- Why a word can not be mapped. -/
def oneS (l : List En) (inn : Bool) (w : Nat) : Int := match findS l (ix w) (sb w) with
  | none => if inB l (ix w) = true then 101253137 else 100794368
  | some k => if (l.getD k en0).map = false ∨ ((Ty.kd (l.getD k en0).type).bits : Int) ≠ (bt w : Int) ∨ (if inn = true then writS (l.getD k en0) else readS (l.getD k en0)) ≠ 0 then 100925505 else 0
/-- Why a mapping can not be: from the word of a number on, n words being ahead. -/
def checkF (l : List En) (inn : Bool) (all : List Nat) : Nat → Nat → Int
  | 0, _ => 0
  | k + 1, i => if oneS l inn (all.getD i 0) ≠ 0 then oneS l inn (all.getD i 0) else if 64 < sizeS (all.take (i + 1)) then 100925506 else checkF l inn all k (i + 1)
def checkS (l : List En) (inn : Bool) (all : List Nat) : Int := if 8 < all.length then 100925506 else checkF l inn all all.length 0
end Go.Proofs.Ytgkhpebhhkdgoaa.Mp
/-
  Layer 29 as plain functions: bits at a place of bytes.
  Conditions: none.
-/
namespace Go.Proofs.Ytgkhpebhhkdgoaa.Bt
set_option linter.unusedVariables false
set_option linter.unusedSimpArgs false
def bytesS (n : Int) : Int := if n < 1 then 0 else (n - 1) / 8 + 1
/-- What is wrong of n bits at a place of len bytes. -/
def roomS (len : Nat) (at_ n : Int) : Int := if n < 1 ∨ 64 < n ∨ at_ < 0 then 1 else if 8 * (len : Int) < at_ ∨ 8 * (len : Int) - at_ < n then 2 else 0
def bt (l : List UInt8) (i : Nat) : Nat := (l.getD (i / 8) 0).toNat / 2 ^ (i % 8) % 2
theorem bt_lt (l : List UInt8) (i : Nat) : bt l i < 2 := Nat.mod_lt _ (by decide)
/-- The number of n bits, from the lowest one up. -/
def lowF (l : List UInt8) (p : Nat) : Nat → Nat
  | 0 => 0
  | n + 1 => lowF l p n + bt l (p + n) * 2 ^ n
theorem lowF_lt (l : List UInt8) (p : Nat) : ∀ n, lowF l p n < 2 ^ n
  | 0 => by simp [lowF]
  | n + 1 => by
    have h1 := lowF_lt l p n
    have h2 := bt_lt l (p + n)
    have h3 : bt l (p + n) * 2 ^ n ≤ 1 * 2 ^ n := Nat.mul_le_mul_right _ (by omega)
    rw [lowF, Nat.pow_succ]
    omega
/-- The same, from the highest one down: k bits of them. -/
def upF (l : List UInt8) (p n : Nat) : Nat → Nat
  | 0 => 0
  | k + 1 => 2 * upF l p n k + bt l (p + (n - 1 - k))
theorem upF_lowF (l : List UInt8) (p n : Nat) : ∀ k, k ≤ n → lowF l p n = lowF l p (n - k) + 2 ^ (n - k) * upF l p n k
  | 0, _ => by simp [upF]
  | k + 1, h => by
    rw [upF_lowF l p n k (by omega), upF]
    have e : n - k = (n - (k + 1)) + 1 := by omega
    rw [e, lowF, Nat.pow_succ, show n - 1 - k = n - (k + 1) by omega, Nat.mul_add]
    rw [show 2 ^ (n - (k + 1)) * (2 * upF l p n k) = 2 ^ (n - (k + 1)) * 2 * upF l p n k by rw [Nat.mul_assoc], Nat.mul_comm (bt l (p + (n - (k + 1)))) _]
    omega
theorem upF_all (l : List UInt8) (p n : Nat) : upF l p n n = lowF l p n := by
  have := upF_lowF l p n n (Nat.le_refl _)
  simp [lowF] at this
  exact this.symm
theorem upF_lt (l : List UInt8) (p n : Nat) : ∀ k, upF l p n k < 2 ^ k
  | 0 => by simp [upF]
  | k + 1 => by
    have h1 := upF_lt l p n k
    have h2 := bt_lt l (p + (n - 1 - k))
    rw [upF, Nat.pow_succ]
    omega
def getS (l : List UInt8) (at_ n : Int) : Nat × Int := if roomS l.length at_ n = 0 then (lowF l at_.toNat n.toNat, 0) else (0, roomS l.length at_ n)
/-- A byte with one bit set, or not. -/
def sb (c : UInt8) (j : Nat) (x : Bool) : UInt8 := UInt8.ofNat (if x then c.toNat ||| 2 ^ j else c.toNat &&& (255 - 2 ^ j))
def setB (l : List UInt8) (i : Nat) (x : Bool) : List UInt8 := l.set (i / 8) (sb (l.getD (i / 8) 0) (i % 8) x)
/-- The n lowest bits of v laid at p. -/
def putF (l : List UInt8) (p v : Nat) : Nat → List UInt8
  | 0 => l
  | n + 1 => setB (putF l p v n) (p + n) (v.testBit n)
theorem putF_length (l : List UInt8) (p v : Nat) : ∀ n, (putF l p v n).length = l.length
  | 0 => rfl
  | n + 1 => by rw [putF, setB, List.length_set, putF_length]
def wideS (v : Nat) (n : Int) : Bool := decide (n < 64) && v / 2 ^ n.toNat != 0
def putS (l : List UInt8) (at_ n : Int) (v : Nat) : List UInt8 × Int :=
  if roomS l.length at_ n = 1 then ([], 1) else if wideS v n = true then ([], 9) else if roomS l.length at_ n = 0 then (putF l at_.toNat v n.toNat, 0) else ([], roomS l.length at_ n)
end Go.Proofs.Ytgkhpebhhkdgoaa.Bt
/-
  Not of this seat.
  Conditions: none.
-/
/-
  Not of this seat.
  Conditions: none.
-/
/-
  Layer 11 as plain functions: a word of a PDO's Id.
  Conditions: none.
-/
namespace Go.Proofs.Ytgkhpebhhkdgoaa.Cob
set_option linter.unusedVariables false
set_option linter.unusedSimpArgs false
/-- Its form is wrong. -/
def bad (w : Nat) : Bool := decide (2048 ≤ w % 1073741824)
def off (w : Nat) : Bool := decide (2147483648 ≤ w)
def noR (w : Nat) : Bool := decide (1073741824 ≤ w % 2147483648)
def id (w : Nat) : Nat := w % 2048
/-- Ids that may not be given. -/
def restr (n : Int) : Bool := decide (n < 128 ∨ 2047 < n ∨ (257 ≤ n ∧ n ≤ 384) ∨ (1409 ≤ n ∧ n ≤ 1535) ∨ (1537 ≤ n ∧ n ≤ 1663) ∨ (1760 ≤ n ∧ n ≤ 1791) ∨ 1792 < n)
/-- Why a word can not be a PDO's. -/
def place (w : Nat) : Int := if bad w = true then 100925507 else if off w = false ∧ restr (id w : Int) = true then 100925507 else 0
/-- The Id of a PDO; 0: it is off. -/
def pdo (w : Nat) : Nat := if off w = true then 0 else id w
theorem place_bad {w : Nat} (h : place w = 0) : bad w = false := by
  unfold place at h
  split at h
  · simp at h
  · rename_i hb
    simpa using hb
theorem pdo_lt (w : Nat) : pdo w < 2048 := by unfold pdo id; split <;> omega
theorem andNot_top (x : Nat) (hx : x < 4294967296) : bits .andNot .u32 (x : Int) 3221225472 = ((x % 1073741824 : Nat) : Int) := by
  show IntKind.u32.wrap ((BitVec.ofInt 32 (x : Int) &&& ~~~BitVec.ofInt 32 3221225472).toNat : Int) = _
  have h1 : (BitVec.ofInt 32 (x : Int)).toNat = x := by simp [BitVec.toNat_ofInt]; omega
  have h2 : (~~~BitVec.ofInt 32 3221225472).toNat = 2 ^ 30 - 1 := by decide
  rw [BitVec.toNat_and, h1, h2, Nat.and_two_pow_sub_one_eq_mod]
  simp [IntKind.wrap, IntKind.bits, IntKind.signed]
  omega
theorem and_bit (x n : Nat) (hx : x < 4294967296) (hn : n < 32) : bits .and .u32 (x : Int) ((2 ^ n : Nat) : Int) = (((x / 2 ^ n % 2) * 2 ^ n : Nat) : Int) := by
  have hp : 2 ^ n ≤ 2 ^ 31 := Nat.pow_le_pow_right (by decide) (by omega)
  have := u32_and_nat x (2 ^ n) hx (by omega)
  rw [this]
  congr 1
  apply Nat.eq_of_testBit_eq
  intro i
  rw [Nat.testBit_and, Nat.testBit_two_pow, Nat.testBit_mul_two_pow]
  rcases Nat.lt_trichotomy n i with h | h | h
  · have h1 : x / 2 ^ n % 2 < 2 ^ (i - n) := by
      have : 2 ^ 1 ≤ 2 ^ (i - n) := Nat.pow_le_pow_right (by decide) (by omega)
      omega
    rw [Nat.testBit_lt_two_pow h1, decide_eq_false (show ¬ n = i by omega)]
    simp
  · subst h
    rw [Nat.sub_self, Nat.testBit_zero, Nat.testBit_eq_decide_div_mod_eq]
    simp
  · rw [decide_eq_false (show ¬ n = i by omega), decide_eq_false (show ¬ n ≤ i by omega)]
    simp
theorem and_off (x : Nat) (hx : x < 4294967296) : (bits .and .u32 (x : Int) 2147483648 != 0) = off x := by
  have := and_bit x 31 hx (by decide)
  rw [show ((2 ^ 31 : Nat) : Int) = 2147483648 by decide] at this
  rw [this]
  unfold off
  by_cases h : 2147483648 ≤ x
  · rw [decide_eq_true h, show x / 2 ^ 31 % 2 = 1 by omega]
    decide
  · rw [decide_eq_false h, show x / 2 ^ 31 % 2 = 0 by omega]
    decide
theorem and_noR (x : Nat) (hx : x < 4294967296) : (bits .and .u32 (x : Int) 1073741824 != 0) = noR x := by
  have := and_bit x 30 hx (by decide)
  rw [show ((2 ^ 30 : Nat) : Int) = 1073741824 by decide] at this
  rw [this]
  unfold noR
  by_cases h : 1073741824 ≤ x % 2147483648
  · rw [decide_eq_true h, show x / 2 ^ 30 % 2 = 1 by omega]
    decide
  · rw [decide_eq_false h, show x / 2 ^ 30 % 2 = 0 by omega]
    decide
end Go.Proofs.Ytgkhpebhhkdgoaa.Cob
/-
  Layer 31 as plain functions: a PDO that is received.
  Conditions: none.
-/
namespace Go.Proofs.Ytgkhpebhhkdgoaa.Rp
set_option linter.unusedVariables false
set_option linter.unusedSimpArgs false
open Ent Dc
def kindB (n : Int) : Bool := decide ((0 ≤ n ∧ n ≤ 240) ∨ (254 ≤ n ∧ n ≤ 255))
/-- Why a PDO can not be set so. -/
def checkS (l : List En) (w : Nat) (t : Int) (ws : List Nat) : Int := if Cob.place w ≠ 0 then Cob.place w else if kindB t = false then 101253168 else Mp.checkS l true ws
theorem check_parts {l : List En} {w : Nat} {t : Int} {ws : List Nat} (h : checkS l w t ws = 0) : Cob.place w = 0 ∧ kindB t = true ∧ Mp.checkS l true ws = 0 := by
  unfold checkS at h
  by_cases h1 : Cob.place w = 0
  · rw [if_neg (by simpa using h1)] at h
    cases h2 : kindB t
    · rw [h2] at h; simp at h
    · rw [h2] at h
      exact ⟨h1, rfl, by simpa using h⟩
  · rw [if_pos h1] at h
    exact absurd h h1
end Go.Proofs.Ytgkhpebhhkdgoaa.Rp
/-
  Layer 32 as plain functions: a PDO that is sent.
  Conditions: none.
-/
namespace Go.Proofs.Ytgkhpebhhkdgoaa.Tp
set_option linter.unusedVariables false
set_option linter.unusedSimpArgs false
open Ent Dc
def inB (a b c : Int) : Bool := decide (b ≤ a ∧ a ≤ c)
def kindB (t inh ev : Int) : Bool := (inB t 0 240 || inB t 254 255) && inB inh 0 65535 && inB ev 0 65535
/-- Why a PDO can not be set so. -/
def checkS (l : List En) (w : Nat) (t inh ev : Int) (ws : List Nat) : Int := if Cob.place w ≠ 0 then Cob.place w else if kindB t inh ev = false then 101253168 else Mp.checkS l false ws
/-- Whether it is due, what of the inhibit and of the event is left, the pulses counted. -/
structure St where
  due : Bool
  hold : Int
  left : Int
  count : Int
def restS (ev : Int) : St := ⟨false, 0, ev, 0⟩
def sentS (inh ev : Int) (s : St) : St := ⟨false, inh, ev, s.count⟩
/-- At a trigger: whether it is sent; what it is then. -/
def trigS (t : Int) (s : St) : Bool × St := if 254 ≤ t then (if s.hold = 0 then (true, s) else (false, { s with due := true })) else if t = 0 then (false, { s with due := true }) else (false, s)
/-- At a tick. -/
def downS (s : St) : St := ⟨s.due || (decide (0 < s.left) && decide (s.left = 1)), if s.hold ≤ 1 then 0 else s.hold - 1, if 0 < s.left then s.left - 1 else s.left, s.count⟩
def tickS (t : Int) (s : St) : Bool × St := if 254 ≤ t then ((downS s).due && decide ((downS s).hold = 0), downS s) else (false, s)
/-- At a pulse. -/
def pulseS (t : Int) (s : St) : Bool × St := if 254 ≤ t then (false, s) else if t = 0 then (s.due, s) else if s.count + 1 < t then (false, { s with count := s.count + 1 }) else (true, { s with count := 0 })
theorem check_parts {l : List En} {w : Nat} {t inh ev : Int} {ws : List Nat} (h : checkS l w t inh ev ws = 0) : Cob.place w = 0 ∧ kindB t inh ev = true ∧ Mp.checkS l false ws = 0 := by
  unfold checkS at h
  by_cases h1 : Cob.place w = 0
  · rw [if_neg (by simpa using h1)] at h
    cases h2 : kindB t inh ev
    · rw [h2] at h; simp at h
    · rw [h2] at h
      exact ⟨h1, rfl, by simpa using h⟩
  · rw [if_pos h1] at h
    exact absurd h h1
theorem kind_parts {t inh ev : Int} (h : kindB t inh ev = true) : ((0 ≤ t ∧ t ≤ 240) ∨ (254 ≤ t ∧ t ≤ 255)) ∧ (0 ≤ inh ∧ inh ≤ 65535) ∧ (0 ≤ ev ∧ ev ≤ 65535) := by
  unfold kindB inB at h
  simp only [Bool.and_eq_true, Bool.or_eq_true, decide_eq_true_eq] at h
  exact ⟨h.1.1, h.1.2, h.2⟩
end Go.Proofs.Ytgkhpebhhkdgoaa.Tp
/-
  Layer 33 as plain functions: what a dictionary says of a node's communication.
  Conditions: none.
-/
namespace Go.Proofs.Ytgkhpebhhkdgoaa.Pm
set_option linter.unusedVariables false
set_option linter.unusedSimpArgs false
open Ent Dc
def isNum (t : Int) : Bool := decide (t = 5 ∨ t = 6 ∨ t = 7)
/-- A place's number, and whether there is one. -/
def numS (D : Dic) (i j : Int) : Int × Bool := match findS D.l i j with
  | none => (0, false)
  | some k => if isNum (D.l.getD k en0).type = true then ((Ty.decS (D.l.getD k en0).type (D.v.getD k [])).1, decide ((Ty.decS (D.l.getD k en0).type (D.v.getD k [])).2 = 0)) else (0, false)
def numD (D : Dic) (i j other : Int) : Int := if (numS D i j).2 = true then (numS D i j).1 else other
theorem dec_range {t : Int} (h : isNum t = true) (b : List UInt8) : 0 ≤ (Ty.decS t b).1 ∧ (Ty.decS t b).1 < 4294967296 := by
  have key : ∀ z : Nat, 2 ^ z ≤ 4294967296 → (Ty.kd t).sgn = false → (Ty.kd t).bits = z → 0 ≤ (Ty.decS t b).1 ∧ (Ty.decS t b).1 < 4294967296 := by
    intro z hz h1 h2
    unfold Ty.decS
    rw [h2]
    split
    · exact ⟨by decide, by decide⟩
    · split
      · exact ⟨by decide, by decide⟩
      · split
        · exact ⟨by decide, by decide⟩
        · split
          · rename_i h5; rw [h1] at h5; cases h5
          · split
            · exact ⟨by decide, by decide⟩
            · dsimp only; omega
  have h' := of_decide_eq_true h
  rcases h' with rfl | rfl | rfl
  · exact key 8 (by decide) (by decide) (by decide)
  · exact key 16 (by decide) (by decide) (by decide)
  · exact key 32 (by decide) (by decide) (by decide)
theorem num_range (D : Dic) (i j : Int) : 0 ≤ (numS D i j).1 ∧ (numS D i j).1 < 4294967296 := by
  unfold numS
  cases findS D.l i j with
  | none => dsimp only; omega
  | some k =>
    dsimp only
    split
    · rename_i h; exact dec_range h _
    · dsimp only; omega
theorem numD_range (D : Dic) (i j : Int) {o : Int} (ho : 0 ≤ o ∧ o < 4294967296) : 0 ≤ numD D i j o ∧ numD D i j o < 4294967296 := by
  unfold numD
  split
  · exact num_range D i j
  · exact ho
/-- Of a dictionary whose values are right a number is there, or nothing. -/
theorem num_fine {D : Dic} (h : Fine D) {i j : Int} (hn : (numS D i j).2 = false) : (numS D i j).1 = 0 := by
  unfold numS at *
  cases hf : findS D.l i j with
  | none => rfl
  | some k =>
    rw [hf] at hn
    dsimp only at hn ⊢
    split
    · rename_i hi
      rw [if_pos hi] at hn
      have hk := (find_some hf).2.1
      have hv := h.ok k hk
      have hb : 0 < (Ty.kd (D.l.getD k en0).type).bits := by
        rcases of_decide_eq_true hi with e | e | e <;> rw [e] <;> decide
      unfold valS at hv
      rw [if_pos hb] at hv
      unfold Ent.numS at hv
      have hd : (Ty.decS (D.l.getD k en0).type (D.v.getD k [])).2 = 0 := by
        rcases Decidable.em ((Ty.decS (D.l.getD k en0).type (D.v.getD k [])).2 = 0) with h | h
        · exact h
        · exfalso
          simp only [h, ne_eq, not_false_eq_true, if_true] at hv
          split at hv
          · simp at hv
          · split at hv <;> simp at hv
      rw [hd] at hn
      simp at hn
    · rfl
theorem numD_fine {D : Dic} (h : Fine D) (i j : Int) : numD D i j 0 = (numS D i j).1 := by
  unfold numD
  split
  · rfl
  · rename_i hn
    exact (num_fine h (by simpa using hn)).symm
/-- An index's list. -/
def cntS (D : Dic) (i : Int) : Nat := (min (numD D i 0 0) 8).toNat
def wordsK (D : Dic) (i : Int) (k : Nat) : List Nat := (List.range k).map fun (j : Nat) => (numD D i ((j : Int) + 1) 0).toNat
def wordsS (D : Dic) (i : Int) : List Nat := wordsK D i (cntS D i)
theorem wordsK_len (D : Dic) (i : Int) (k : Nat) : (wordsK D i k).length = k := by unfold wordsK; simp
theorem wordsK_step (D : Dic) (i : Int) (k : Nat) : wordsK D i (k + 1) = wordsK D i k ++ [(numD D i ((k : Int) + 1) 0).toNat] := by
  unfold wordsK
  rw [List.range_succ, List.map_append]
  rfl
theorem cnt_le (D : Dic) (i : Int) : cntS D i ≤ 8 ∧ (cntS D i : Int) = min (numD D i 0 0) 8 := by
  have := (numD_range D i 0 (o := 0) (by omega)).1
  unfold cntS
  omega
theorem wordsK_lt (D : Dic) (i : Int) (k : Nat) : ∀ x ∈ wordsK D i k, x < 4294967296 := by
  intro x hx
  unfold wordsK at hx
  obtain ⟨j, _, rfl⟩ := List.mem_map.1 hx
  have := (numD_range D i ((j : Int) + 1) (o := 0) (by omega))
  omega
/-- How a PDO that comes in, or goes out, is set. -/
def rpdoS (D : Dic) (k : Int) : Option (Nat × Int × List Nat) := if k < 0 ∨ 4 ≤ k then none else if (numS D (5120 + k) 1).2 = false then none else some ((numS D (5120 + k) 1).1.toNat, numD D (5120 + k) 2 255, wordsS D (5632 + k))
def tpdoS (D : Dic) (k : Int) : Option (Nat × Int × Int × Int × List Nat) := if k < 0 ∨ 4 ≤ k then none else if (numS D (6144 + k) 1).2 = false then none else some ((numS D (6144 + k) 1).1.toNat, numD D (6144 + k) 2 255, numD D (6144 + k) 3 0, numD D (6144 + k) 5 0, wordsS D (6656 + k))
def peersS (D : Dic) : List Nat := (wordsS D 4118).take 4
def periodS (D : Dic) : Int := numD D 4119 0 0
def syncS (D : Dic) : Option (Nat × Int) := if (numS D 4101 0).2 = false then none else some ((numS D 4101 0).1.toNat, numD D 4121 0 0)
def inS (X : Dic) (k : Int) : Int := match rpdoS X k with | none => 0 | some (v, t, ws) => Rp.checkS X.l v t ws
def outS (X : Dic) (k : Int) : Int := match tpdoS X k with | none => 0 | some (v, t, inh, ev, ws) => Tp.checkS X.l v t inh ev ws
def mappedS (D X : Dic) (i j ahead pdo : Int) : Int :=
  if 0 < j then (if numD D i 0 0 ≠ 0 then 100728832 else 0)
  else if numD X i j 0 = 0 then 0
  else if (numS D (i - ahead) 1).2 = true ∧ (numS D (i - ahead) 1).1 < 2147483648 then 100728832
  else if 8 < numD X i j 0 then 100925506 else pdo
def signedS (X : Dic) (i j want : Int) : Int := if 1 ≤ j ∧ j ≤ 4 ∧ numD X i j 0 ≠ want then 134217760 else 0
/-- What is asked of a place, of those whose answer is told here. -/
def askS (D X : Dic) (i j : Int) : Option Int :=
  if i = 4112 then some (signedS X i j 1702257011)
  else if i = 4113 then some (signedS X i j 1684107116)
  else if i = 4099 ∨ i = 4101 ∨ i = 4121 ∨ i = 4118 then none
  else if 5120 ≤ i ∧ i ≤ 5123 then some (inS X (i - 5120))
  else if 6144 ≤ i ∧ i ≤ 6147 then some (outS X (i - 6144))
  else if 5632 ≤ i ∧ i ≤ 5635 then some (mappedS D X i j 512 (inS X (i - 5632)))
  else if 6656 ≤ i ∧ i ≤ 6659 then some (mappedS D X i j 512 (outS X (i - 6656)))
  else some 0
/-- What Guard may say of a value. -/
def Guards (D : Dic) (i j : Int) (b : List UInt8) (c : Int) : Prop :=
  if mayS D.l false i j b ≠ 0 then c = mayS D.l false i j b else ∀ r, askS D (pokeS D i j b) i j = some r → c = r
end Go.Proofs.Ytgkhpebhhkdgoaa.Pm
/-
  Walks: Split, Join, Size of layer 30, and of its reference.
  Conditions: none.
-/
namespace Go.Proofs.Ytgkhpebhhkdgoaa
set_option linter.unusedVariables false
set_option linter.unusedSimpArgs false
open Go.RowKit
theorem and255 (n : Nat) (hn : n < 4294967296) {z : Int} (hz : z = (n : Int)) : bits .and .u32 z 255 = ((n % 256 : Nat) : Int) := by
  subst hz
  have := u32_and_nat n 255 hn (by decide)
  rw [show n &&& 255 = n % 256 from Nat.and_two_pow_sub_one_eq_mod n 8] at this
  exact this
theorem or_words (x y z : Nat) (hx : x ≤ 65535) (hy : y ≤ 255) (hz : z ≤ 255) : bits .or .u32 (bits .or .u32 ((x : Int) * 65536) ((y : Int) * 256)) (z : Int) = 65536 * (x : Int) + 256 * (y : Int) + (z : Int) := by
  have e1 : bits .or .u32 ((x : Int) * 65536) ((y : Int) * 256) = ((65536 * x + 256 * y : Nat) : Int) := by
    have := u32_or_nat (2 ^ 16 * x) (256 * y) (by omega) (by omega)
    rw [← Nat.two_pow_add_eq_or_of_lt (by omega : 256 * y < 2 ^ 16)] at this
    rw [show (x : Int) * 65536 = ((2 ^ 16 * x : Nat) : Int) by omega, show (y : Int) * 256 = ((256 * y : Nat) : Int) by omega, this]
  have e2 := u32_or_nat (2 ^ 8 * (256 * x + y)) z (by omega) (by omega)
  rw [← Nat.two_pow_add_eq_or_of_lt (by omega : z < 2 ^ 8)] at e2
  rw [e1, show ((65536 * x + 256 * y : Nat) : Int) = ((2 ^ 8 * (256 * x + y) : Nat) : Int) by omega, e2]
  omega
theorem MSplit_any (v : Nat) (hv : v < 4294967296) (w : World) : Calls Try.prog 87 #[.int .u32 (v : Int)] w fun e w' => e = .returned (.tuple #[.int .i64 (Mp.ix v : Int), .int .i64 (Mp.sb v : Int), .int .i64 (Mp.bt v : Int)]) ∧ w = w' := by
  have e1 : bits .and .u32 ((v : Int) / 256) 255 = ((v / 256 % 256 : Nat) : Int) := and255 (v / 256) (by omega) (by omega)
  have e2 : bits .and .u32 (v : Int) 255 = ((v % 256 : Nat) : Int) := and255 v hv rfl
  have e3 : wrap64 ((v / 256 % 256 : Nat) : Int) = ((v / 256 % 256 : Nat) : Int) := by unfold wrap64; omega
  have e4 : wrap64 ((v % 256 : Nat) : Int) = ((v % 256 : Nat) : Int) := by unfold wrap64; omega
  go_enter Try.func87, Try.ntmps87
  go_wp2_with fail
  go_ret3
  exact ⟨by simp only [Mp.ix, Mp.sb, Mp.bt]; rfl, rfl⟩
/-- Words that are read. -/
def RW (w : World) (B : Nat) (A : Option Addr) (n c : Nat) (ws : List Nat) : Prop := RV w B 1 A n c (ws.map fun (x : Nat) => Value.int .u32 (x : Int))
section
variable {w w' : World} {B B' n c : Nat} {A : Option Addr} {ws : List Nat}
theorem RW.len (h : RW w B A n c ws) : ws.length = n := by have := RV.len h; simpa using this
theorem RW.lt (h : RW w B A n c ws) : n ≤ 9223372036854775807 := Nat.le_trans (RV.le h) (RV.cap h)
theorem RW.below (h : RW w B A n c ws) (hb : Below B w w') : RW w' B A n c ws := RV.below h hb
theorem RW.more (h : RW w B A n c ws) (hB : B ≤ B') : RW w B' A n c ws := RV.more h hB
theorem RW.at_ (h : RW w B A n c ws) {i : Nat} (hi : i < n) : ∃ b o, A = some ⟨b, o, none⟩ ∧ b < B ∧ w.cell? ⟨b, o + i, none⟩ = some (.int .u32 ((ws.getD i 0 : Nat) : Int)) := by
  have hl := h.len
  obtain ⟨b, o, rfl, hb, hc⟩ := RV.at_ h (by omega)
  exact ⟨b, o, rfl, hb, hc i _ (by simp [List.getElem?_map, List.getD, show i < ws.length by omega])⟩
/-- 'x[:k]' -/
theorem RW.take (h : RW w B A n c ws) {k : Nat} (hk : k ≤ n) : RW w B A k c (ws.take k) :=
  ⟨by rw [List.length_map, List.length_take, h.len]; omega, Nat.le_trans hk (RV.le h), RV.cap h, fun e => ⟨by have := (RV.nil h e).1; omega, (RV.nil h e).2⟩, fun hn => by
    obtain ⟨b, o, rfl, hb, hc⟩ := RV.at_ h (by omega)
    refine ⟨b, o, rfl, hb, fun j u hu => hc j u ?_⟩
    rw [List.map_take, List.getElem?_take] at hu
    split at hu
    · exact hu
    · cases hu⟩
end
theorem size_step {ws : List Nat} {k : Nat} (h : k < ws.length) : Mp.sizeS (ws.take (k + 1)) = Mp.sizeS (ws.take k) + Mp.bt (ws.getD k 0) := by
  unfold Mp.sizeS
  rw [List.take_succ_eq_append_getElem h, List.map_append, List.sum_append, List.getD_eq_getElem?_getD, List.getElem?_eq_getElem h]
  simp
theorem size_le (ws : List Nat) : Mp.sizeS ws ≤ 255 * ws.length := by
  unfold Mp.sizeS
  induction ws with
  | nil => simp
  | cons a l ih =>
    simp only [List.map_cons, List.sum_cons, List.length_cons]
    have : Mp.bt a ≤ 255 := by unfold Mp.bt; omega
    omega
theorem word_lt {ws : List Nat} (h : ∀ x ∈ ws, x < 4294967296) (i : Nat) : ws.getD i 0 < 4294967296 := by
  rw [List.getD_eq_getElem?_getD]
  cases hi : ws[i]? with
  | none => simp
  | some x => exact h _ (List.mem_of_getElem? hi)
set_option maxRecDepth 100000 in
set_option maxHeartbeats 4000000 in
theorem MSize_any {A : Option Addr} {n c B : Nat} {ws : List Nat} (w : World) (h : RW w B A n c ws) (hn : n ≤ 1000000) (hw : ∀ x ∈ ws, x < 4294967296) : Calls Try.prog 83 #[.slice A n c] w fun e w' => e = .returned (.int .i64 (Mp.sizeS ws : Int)) ∧ w = w' := by
  have hl := h.len
  go_enter Try.func83, Try.ntmps83
  go_wp2_with fail
  go_loop [3, 8] (fun v i => ∃ k : Nat, k ≤ n ∧ i = .int .i64 k ∧ v = .int .i64 (Mp.sizeS (ws.take k) : Int)) (fun _ i => n - (intOf i).toNat)
  case atStart => exact ⟨0, by omega, rfl, rfl⟩
  case round =>
    obtain ⟨k, hk, rfl, rfl⟩ := hrel
    by_cases hlt : k < n
    · obtain ⟨b, o, rfl, hbB, q0⟩ := h.at_ hlt
      have hst := size_step (ws := ws) (k := k) (by omega)
      have hsz := size_le (ws.take k)
      have hwv := word_lt hw k
      have hlk : (ws.take k).length = k := by rw [List.length_take]; omega
      rw [hlk] at hsz
      unfold Mp.bt at hst
      have e2 : bits .and .u32 ((ws.getD k 0 : Nat) : Int) 255 = ((ws.getD k 0 % 256 : Nat) : Int) := and255 _ hwv rfl
      generalize ws.getD k 0 = x at *
      generalize Mp.sizeS (ws.take k) = cur at *
      have HST := Lib.hid hst
      have hx : x % 256 < 256 := by omega
      generalize x % 256 = y at *
      clear hst hlk
      go_wp2_with fail
      go_round
      case rel => exact ⟨k + 1, by omega, by go_num, by rw [HST.out]; go_num⟩
      case measure => simp [intOf] <;> omega
    · obtain rfl : k = n := by omega
      go_wp2_with fail
      go_ret
      exact ⟨by rw [List.take_of_length_le (by omega)]; rfl, rfl⟩
end Go.Proofs.Ytgkhpebhhkdgoaa
/-
  Walks: Entry of layer 15; find of layer 30.
  Conditions: none.
-/
namespace Go.Proofs.Ytgkhpebhhkdgoaa
set_option linter.unusedVariables false
set_option linter.unusedSimpArgs false
open Go.RowKit
set_option maxRecDepth 100000 in
set_option maxHeartbeats 4000000 in
theorem dEntry_any {F : Nat → Prop} {w : World} {g gv lc vc : Nat} {la : Addr} {vA : Option Addr} {xs vs : List Value} {D : Dc.Dic} (k : Nat) (h : DRt 73 w F g gv (some la) lc vA vc xs vs D) (hk : k < D.l.length) (hd : ∀ e ∈ D.l, e.dflt.length ≤ 1000000) : Calls Try.prog 16 #[.pointer (some ⟨g, 0, none⟩), .int .i64 (k : Int)] w fun e w' => ∃ A1 n1 c1, e = .returned (.tuple #[enV (D.l.getD k Dc.en0) A1 n1 c1, .bool true]) ∧ OB w' w.heap.size A1 n1 c1 (D.l.getD k Dc.en0).dflt ∧ Below w.heap.size w w' := by
  obtain ⟨b, oo, A, n, c, hA, hbB, hr, hc⟩ := h.entry hk
  have hmem : D.l.getD k Dc.en0 ∈ D.l := by
    rw [List.getD_eq_getElem?_getD, List.getElem?_eq_getElem hk]
    exact List.getElem_mem hk
  have hdl := hd _ hmem
  clear hmem
  have hn := hr.len
  generalize he : D.l.getD k Dc.en0 = e0 at *
  have HE := Lib.hid he
  clear he
  obtain ⟨ix, sb, nm, ty, ac, mp, st, mx, lo, hi, df⟩ := e0
  unfold enV
  dsimp only at hr hdl hn ⊢
  injection hA with hA
  subst hA
  have b0 := alloc_one w (.cells #[.int .i64 0, .int .i64 0, .string ⟨#[]⟩, .int .i64 0, .int .i64 0, .bool false, .bool false, .int .i64 0, .int .i64 0, .int .i64 0, .slice none 0 0] 46)
  have LN := Lib.hid (dLen_any (h.below b0))
  have h2 := h.below b0
  obtain ⟨t0, t1⟩ := h2.two
  have hlc := h.lcap
  have HLC := Lib.hid hlc
  have c0 := (b0.cell (p := ⟨b, oo + k * 11 + 0, none⟩) hbB).trans (hc 0 _ rfl)
  have c1 := (b0.cell (p := ⟨b, oo + k * 11 + 1, none⟩) hbB).trans (hc 1 _ rfl)
  have c2 := (b0.cell (p := ⟨b, oo + k * 11 + 2, none⟩) hbB).trans (hc 2 _ rfl)
  have c3 := (b0.cell (p := ⟨b, oo + k * 11 + 3, none⟩) hbB).trans (hc 3 _ rfl)
  have c4 := (b0.cell (p := ⟨b, oo + k * 11 + 4, none⟩) hbB).trans (hc 4 _ rfl)
  have c5 := (b0.cell (p := ⟨b, oo + k * 11 + 5, none⟩) hbB).trans (hc 5 _ rfl)
  have c6 := (b0.cell (p := ⟨b, oo + k * 11 + 6, none⟩) hbB).trans (hc 6 _ rfl)
  have c7 := (b0.cell (p := ⟨b, oo + k * 11 + 7, none⟩) hbB).trans (hc 7 _ rfl)
  have c8 := (b0.cell (p := ⟨b, oo + k * 11 + 8, none⟩) hbB).trans (hc 8 _ rfl)
  have c9 := (b0.cell (p := ⟨b, oo + k * 11 + 9, none⟩) hbB).trans (hc 9 _ rfl)
  have c10 := (b0.cell (p := ⟨b, oo + k * 11 + 10, none⟩) hbB).trans (hc 10 _ rfl)
  simp only [Nat.add_zero] at c0
  dsimp only at c0 c1 c2 c3 c4 c5 c6 c7 c8 c9 c10
  have HD := held_any ⟨ix, sb, nm, ty, ac, mp, st, mx, lo, hi, df⟩ (w.alloc (.cells #[.int .i64 0, .int .i64 0, .string ⟨#[]⟩, .int .i64 0, .int .i64 0, .bool false, .bool false, .int .i64 0, .int .i64 0, .int .i64 0, .slice none 0 0] 46)) (hr.below b0) (by omega) b0.size
  unfold enV at HD
  dsimp only at HD
  replace HD := Lib.hid HD
  have K2 := Blk.new w 46 #[.int .i64 0, .int .i64 0, .string ⟨#[]⟩, .int .i64 0, .int .i64 0, .bool false, .bool false, .int .i64 0, .int .i64 0, .int .i64 0, .slice none 0 0]
  clear hc hr h h2 hlc
  generalize D.l.length = m at *
  go_enter Try.func16, Try.ntmps16
  go_wp2_with fail
  refine (LN.out).mono ?_
  rintro e w1 ⟨rfl, rfl⟩
  go_wp2_with fail
  refine (HD.out).mono ?_
  rintro e w1 ⟨A1, c1', rfl, o1, b1⟩
  replace K2 := K2.later b1
  have E2 := K2.eleven
  have d1 := below_step b0 b1 (Nat.le_refl _)
  simp only [World.size_alloc] at o1
  go_wp2_with fail
  have R := (K2.store11 (.int .i64 ix) (.int .i64 sb) (.string (T nm)) (.int .i64 ty) (.int .i64 ac) (.bool mp) (.bool st) (.int .i64 mx) (.int .i64 lo) (.int .i64 hi) (.slice A1 n c1')).eleven.1
  have d2 := below_set11 (g := w.heap.size) d1 (Nat.le_refl _) (.int .i64 ix) (.int .i64 sb) (.string (T nm)) (.int .i64 ty) (.int .i64 ac) (.bool mp) (.bool st) (.int .i64 mx) (.int .i64 lo) (.int .i64 hi) (.slice A1 n c1')
  have o2 := (o1.far11 (g := w.heap.size) (by omega) (.int .i64 ix) (.int .i64 sb) (.string (T nm)) (.int .i64 ty) (.int .i64 ac) (.bool mp) (.bool st) (.int .i64 mx) (.int .i64 lo) (.int .i64 hi) (.slice A1 n c1')).more (base' := w.heap.size) (by omega)
  exact bodyPost_ret (v := .tuple #[.agg #[.int .i64 ix, .int .i64 sb, .string (T nm), .int .i64 ty, .int .i64 ac, .bool mp, .bool st, .int .i64 mx, .int .i64 lo, .int .i64 hi, .slice A1 n c1'], .bool true]) (by simp [results, Try.results16, go_sem, R]) rfl ⟨A1, n, c1', rfl, o2, d2⟩
end Go.Proofs.Ytgkhpebhhkdgoaa
/-
  Words as a slice's cell, in an argument.
  Conditions: none.
-/
namespace Go.Proofs.Ytgkhpebhhkdgoaa
set_option linter.unusedVariables false
set_option linter.unusedSimpArgs false
open Go.ChangeShapes Go.WideShapes Go.ChangeAt Go.RowKit
section
variable {H : Type} {enc : TypeId × Value → H} {w : World} {spare : Nat → Bool} {held : Bool}
set_option maxRecDepth 100000 in
theorem cell_words {fuel : Nat} {v : Value} {x : DataW H × List MemPlace} (h : DataW.trod enc Try.prog w 0 spare held fuel 29 [v] = some x) :
    ∃ (A : Option Addr) (n c : Nat) (ws : List Nat), v = .slice A n c ∧ RW w w.heap.size A n c ws ∧ ∀ x ∈ ws, x < 4294967296 := by
  obtain ⟨A, n, c, rfl⟩ := cell_slice Try.underlying29 h
  obtain ⟨ws, xs, hl, h1, h2⟩ := open_rows (fun (x : Nat) cs => cs = [.int .u32 (x : Int)] ∧ x < 4294967296) Try.underlying29 (show Try.prog.cellsOf 28 = 1 by kernel_rfl) (by decide) (fun _ cs _ h => by
    have h3 : cs.length = 1 := (DataW.trod_int Try.underlying28 h).elim fun z hz => by rw [hz.1]; rfl
    match cs, h3 with
    | [a], _ =>
      obtain ⟨i, rfl, hw⟩ := cell_int Try.underlying28 h
      obtain ⟨b1, b2⟩ := bounds_u32 hw
      obtain ⟨m, rfl⟩ := Int.eq_ofNat_of_zero_le b1
      exact ⟨m, rfl, by omega⟩) h
  have e : xs = ws.map fun (x : Nat) => Value.int .u32 (x : Int) := by
    apply List.ext_getElem?
    intro i
    have hx := h2.len
    rw [List.getElem?_map]
    by_cases hi : i < ws.length
    · have := (h2.2 i _ (List.getElem?_eq_getElem hi)).1
      have e0 : ((xs.drop (i * 1)).take 1)[0]? = xs[i]? := by rw [List.getElem?_take, List.getElem?_drop]; simp
      rw [this] at e0
      simp [List.getElem?_eq_getElem hi, ← e0]
    · rw [List.getElem?_eq_none (by omega), List.getElem?_eq_none (by omega)]; rfl
  subst e
  refine ⟨A, n, c, ws, rfl, h1, fun x hm => ?_⟩
  obtain ⟨i, hi, rfl⟩ := List.getElem_of_mem hm
  exact (h2.2 i _ (List.getElem?_eq_getElem hi)).2
end
theorem RW.lit (w : World) (ws : List Nat) (cs : List Value) (n : Nat) (hc : cs = ws.map fun (x : Nat) => Value.int .u32 (x : Int)) (hn : ws.length = n) (hm : n ≤ 9223372036854775807) : RW (w.alloc (.cells cs.toArray 28)) (w.heap.size + 1) (some ⟨w.heap.size, 0, none⟩) n n ws := by
  subst hc
  exact RV.lit w 28 n (size := 1) (by simp [hn]) hm
end Go.Proofs.Ytgkhpebhhkdgoaa
