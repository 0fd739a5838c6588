/-
  Texts joined: Spoil, EntMem.
  Conditions: none.
-/
import Derived.Test.YtmolmpgampmolaaGreatJ02
import Derived.Test.YtmolmpgampmolaaGreatJ04
import Derived.Test.YtmolmpgampmolaaGreatJ05
import Derived.ArgAppend
/-
  Spoil, of slices that may share their memory: blocks of bytes stay blocks of bytes.
  Conditions: none.
-/
namespace Go.Proofs.YtmolmpgampmolaaGreat
set_option linter.unusedVariables false
set_option linter.unusedSimpArgs false
open Go.RowKit
/-- Blocks of bytes stay such, and no byte becomes anything else; other blocks are as they were. -/
structure SpU (w w' : World) : Prop where
  size : w.heap.size ≤ w'.heap.size
  bytes : ∀ g cur, Blk w g 5 cur → ∃ cur', Blk w' g 5 cur' ∧ cur'.size = cur.size ∧ ∀ (i : Nat) (x : UInt8), cur[i]? = some (bv x) → ∃ y : UInt8, cur'[i]? = some (bv y)
  rest : ∀ g e cur, e ≠ 5 → Blk w g e cur → Blk w' g e cur
theorem SpU.refl (w : World) : SpU w w := ⟨Nat.le_refl _, fun g cur h => ⟨cur, h, rfl, fun i x hx => ⟨x, hx⟩⟩, fun _ _ _ _ h => h⟩
theorem SpU.trans {w w1 w2 : World} (h : SpU w w1) (k : SpU w1 w2) : SpU w w2 := by
  refine ⟨Nat.le_trans h.1 k.1, fun g cur hb => ?_, fun g e cur he hb => k.3 g e cur he (h.3 g e cur he hb)⟩
  obtain ⟨c1, h1, h2, h3⟩ := h.2 g cur hb
  obtain ⟨c2, k1, k2, k3⟩ := k.2 g c1 h1
  exact ⟨c2, k1, by omega, fun i x hx => by obtain ⟨y, hy⟩ := h3 i x hx; exact k3 i y hy⟩
theorem SpU.below {w w' : World} (hb : Below w.heap.size w w') : SpU w w' := ⟨hb.size, fun g cur h => ⟨cur, h.later hb, rfl, fun i x hx => ⟨x, hx⟩⟩, fun _ _ _ _ h => h.later hb⟩
theorem SpU.set_ (w : World) {g : Nat} {cur : Array Value} (hg : Blk w g 5 cur) (i : Nat) (y : UInt8) {v : Int} (hv : v = (y.toNat : Int)) : SpU w (w.setCell ⟨g, i, none⟩ (.int .u8 v)) := by
  subst hv
  refine ⟨by simp [World.setCell], fun g' cur' h' => ?_, fun g' e cur' he h' => h'.far (p := ⟨g, i, none⟩) (Blk.ne_ h' hg he) _⟩
  by_cases e : g' = g
  · subst e
    refine ⟨_, h'.set_ i (bv y), by simp, fun j x hx => ?_⟩
    rw [Array.getElem?_setIfInBounds]
    by_cases e : i = j
    · subst e
      have : i < cur'.size := (Array.getElem?_eq_some_iff.1 hx).1
      exact ⟨y, by simp [this]⟩
    · exact ⟨x, by rw [if_neg e]; exact hx⟩
  · exact ⟨cur', h'.far (p := ⟨g, i, none⟩) e _, rfl, fun j x hx => ⟨x, hx⟩⟩
/-- A row of other elements is as it was. -/
theorem OV.sp {w w' : World} {base e size n c : Nat} {A : Option Addr} {xs : List Value} (h : OV w base e size A n c xs) (k : SpU w w') (he : e ≠ 5) : OV w' base e size A n c xs := by
  obtain ⟨hl, hr⟩ := h
  refine ⟨hl, ?_⟩
  rcases hr with h1 | ⟨g, cap, cur, hv, hb, hg, r⟩
  · exact .inl h1
  · exact .inr ⟨g, cap, cur, hv, hb, k.rest g e cur he hg, r⟩
/-- A slice of bytes that may be written to, from block 'base' on. -/
structure WB (w : World) (base : Nat) (A : Option Addr) (n c : Nat) : Prop where
  le : n ≤ c
  cap : c ≤ 9223372036854775807
  nil : A = none → n = 0 ∧ c = 0
  at_ : 0 < c → ∃ g cur, A = some ⟨g, 0, none⟩ ∧ base ≤ g ∧ Blk w g 5 cur ∧ c ≤ cur.size ∧ ∀ i, i < n → ∃ x : UInt8, cur[i]? = some (bv x)
theorem WB.sp {w w' : World} {base n c : Nat} {A : Option Addr} (h : WB w base A n c) (k : SpU w w') : WB w' base A n c := by
  refine ⟨h.le, h.cap, h.nil, fun hc => ?_⟩
  obtain ⟨g, cur, e, hg, hb, hs, hx⟩ := h.at_ hc
  obtain ⟨cur', k1, k2, k3⟩ := k.2 g cur hb
  exact ⟨g, cur', e, hg, k1, by omega, fun i hi => by obtain ⟨x, hx⟩ := hx i hi; exact k3 i x hx⟩
theorem WB.below {w w' : World} {base n c : Nat} {A : Option Addr} (h : WB w base A n c) (hb : Below w.heap.size w w') : WB w' base A n c := h.sp (SpU.below hb)
theorem WB.more {w : World} {base base' n c : Nat} {A : Option Addr} (h : WB w base A n c) (hb : base' ≤ base) : WB w base' A n c :=
  ⟨h.le, h.cap, h.nil, fun hc => by obtain ⟨g, cur, e, hg, r⟩ := h.at_ hc; exact ⟨g, cur, e, by omega, r⟩⟩
theorem WB.none_ (w : World) (base : Nat) : WB w base none 0 0 := ⟨Nat.le_refl _, by omega, fun _ => ⟨rfl, rfl⟩, fun h => absurd h (by omega)⟩
theorem OB.wb {w : World} {base n c : Nat} {A : Option Addr} {l : List UInt8} (h : OB w base A n c l) : WB w base A n c := by
  refine ⟨h.rb.le, h.rb.cap, h.rb.nil, fun hc => ?_⟩
  have hl := h.rb.len
  rcases h.2 with ⟨hv, _⟩ | ⟨g, cap, cur, hv, hb, hg, hnc, hcm, hcs, ht⟩
  · injection hv with _ _ h3; omega
  · injection hv with h1 h2 h3
    subst h1 h3
    refine ⟨g, cur, rfl, hb, hg, by omega, fun i hi => ⟨l.getD i 0, ?_⟩⟩
    have : (l.map bv)[i]? = cur.toList[i]? := by rw [← ht, List.getElem?_take, if_pos (by omega)]
    rw [← Array.getElem?_toList, ← this]
    simp [List.getD, List.getElem?_eq_getElem (show i < l.length by omega)]
/-- 'x[:k:k]' -/
theorem WB.cut {w : World} {base n c k : Nat} {A : Option Addr} (h : WB w base A n c) (hk : k ≤ n) : WB w base A k k :=
  ⟨Nat.le_refl _, Nat.le_trans (Nat.le_trans hk h.le) h.cap, fun e => by have := h.nil e; omega, fun hc => by
    have := h.le
    obtain ⟨g, cur, e, hg, hb, hs, hx⟩ := h.at_ (by omega)
    exact ⟨g, cur, e, hg, hb, by omega, fun i hi => hx i (by omega)⟩⟩
theorem WB.own_ne {w : World} {base n c : Nat} {A : Option Addr} {base' e size m c' : Nat} {A' : Option Addr} {xs : List Value} (h : WB w base A n c) (hc : 0 < c) (h' : OV w base' e size A' m c' xs) (hne : e ≠ 5) : (Value.slice A' m c').ownBlock ≠ (Value.slice A n c).ownBlock := by
  obtain ⟨g, cur, rfl, _, hb, _⟩ := h.at_ hc
  exact own_blk_ne h' hb hne
theorem grown_row {w : World} {base e n : Nat} {v : Value} {xs : List Value} (h : w.ownsRow base e 1 v (n + 1) xs) :
    ∃ g c u, v = .slice (some ⟨g, 0, none⟩) (n + 1) c ∧ base ≤ g ∧ g < w.heap.size ∧ n + 1 ≤ c ∧ w.cell? ⟨g, n, none⟩ = some u ∧ w.frozen? ⟨g, n, none⟩ = false ∧ ∃ cur, Blk w g e cur := by
  rcases h.2 with ⟨_, h0⟩ | ⟨g, cap, cur, rfl, hb, hg, hnc, hcm, hcs, ht⟩
  · omega
  · have hB : Blk w g e cur := hg
    exact ⟨g, cap, cur[n]'(by omega), rfl, hb, hB.lt, hnc, (hB.cell n).trans (Array.getElem?_eq_getElem _), hB.frozen n, cur, hB⟩
theorem one_new (w : World) (v : Value) (e : TypeId) : ∀ (j : Nat) (u : Value), ([v] : List Value)[j]? = some u → (w.alloc (.cells #[v] e)).cell? (({ block := w.heap.size, off := 0 } : Addr).add j) = some u := by
  intro j u hu
  obtain rfl : j = 0 := by
    have := (List.getElem?_eq_some_iff.1 hu).1
    simp at this
    exact this
  rw [Addr.add_lit]
  exact ((Blk.new w e #[v]).cell 0).trans hu
theorem one_one : ∀ u ∈ ([.int .u8 99] : List Value), u.oneCell' = true := by
  intro u hu
  simp only [List.mem_cons, List.not_mem_nil, or_false] at hu
  subst hu
  rfl
set_option maxRecDepth 100000 in
set_option maxHeartbeats 1000000 in
theorem Spoil_wb {A : Option Addr} {n c base : Nat} (w : World) (h : WB w base A n c) (hn : n < 140737488355328) (hB : base ≤ w.heap.size) :
    Calls Tryz.prog 9 #[.slice A n c] w fun e w' => e = .returned (.tuple #[]) ∧ Below base w w' ∧ SpU w w' ∧ w.grownBy w' (Value.slice A n c).ownBlock := by
  obtain ⟨i0, hi, hz, hs, hb⟩ := etb.info
  have hcap := h.cap
  have hle := h.le
  go_enter Tryz.func9, Tryz.ntmps9
  go_wp2_with fail
  go_loopw [2] (fun i wr => ∃ k : Nat, k ≤ n ∧ i = .int .i64 k ∧ Below base w wr ∧ SpU w wr ∧ w.grownBy wr (Value.slice A n c).ownBlock) (fun i _ => n - (intOf i).toNat)
  case atStart => exact ⟨0, Nat.zero_le _, rfl, Below.refl _ _, SpU.refl _, World.grownBy.refl _ _⟩
  case round =>
    obtain ⟨k, hk, rfl, hbel, hsp, hgr⟩ := hrel
    have h2 := h.sp hsp
    by_cases hlt : k < n
    · obtain ⟨g, cur, rfl, hbg, hbl, hsz, hx⟩ := h2.at_ (by omega)
      obtain ⟨x, hx⟩ := hx k hlt
      have hck : wr.cell? ⟨g, k, none⟩ = some (.int .u8 (x.toNat : Int)) := (hbl.cell k).trans hx
      have hfr := hbl.frozen k
      have hxl := byte_lt x
      have hlg := hbl.lt
      have HBL := Lib.hid hbl
      clear h2 hx hbl
      go_wp2
      go_roundw
      case rel =>
        exact ⟨k + 1, by omega, by go_num, hbel.setCell (p := ⟨g, k, none⟩) hbg _, hsp.trans (SpU.set_ wr HBL.out k (x ^^^ 90) (u8_xor_bytes x 90)), grown_setCell (p := ⟨g, k, none⟩) hgr (.inl rfl) _⟩
      case measure => simp [intOf]; omega
    · obtain rfl : k = n := by omega
      by_cases hc : k < c
      · obtain ⟨g, cur, rfl, hbg, hbl, hsz, hx⟩ := h2.at_ (by omega)
        obtain ⟨u, hu⟩ : ∃ u, cur[k]? = some u := ⟨_, Array.getElem?_eq_getElem (show k < cur.size by omega)⟩
        have hck : wr.cell? ⟨g, k, none⟩ = some u := (hbl.cell k).trans hu
        have hfr := hbl.frozen k
        have hlg := hbl.lt
        have b1 := alloc_one wr (.cells #[.int .u8 99] 5)
        have hbl1 := hbl.alloc (.cells #[.int .u8 99] 5)
        have hck1 := (hbl1.cell k).trans hu
        have hfr1 := hbl1.frozen k
        have S1 := SpU.set_ wr hbl k 99 (v := 99) rfl
        have S2 := SpU.set_ (wr.setCell ⟨g, k, none⟩ (.int .u8 99)) (hbl.set_ k (.int .u8 99)) k 98 (v := 98) rfl
        have S3 := SpU.below (alloc_one ((wr.setCell ⟨g, k, none⟩ (.int .u8 99)).setCell ⟨g, k, none⟩ (.int .u8 98)) (.cells #[.int .u8 99] 5))
        have HS := Lib.hid (((hsp.trans S1).trans S2).trans S3)
        clear h2 hx hu hbl hbl1 S1 S2 S3
        go_wp2_with fail
        go_end0
        refine ⟨rfl, ?_, HS.out, ?_⟩
        · exact ((hbel.setCell (p := ⟨g, k, none⟩) hbg _).setCell (p := ⟨g, k, none⟩) hbg _).alloc (by simpa [World.setCell] using Nat.le_trans hB hbel.size) _
        · exact grown_alloc (grown_setCell (p := ⟨g, k, none⟩) (grown_setCell (p := ⟨g, k, none⟩) hgr (.inl rfl) _) (.inl rfl) _) _
      · obtain rfl : k = c := by omega
        have b1 := alloc_one wr (.cells #[.int .u8 99] 5)
        have h3 := h2.below b1
        obtain ⟨olds, ho1, ho2⟩ : ∃ olds : List Value, olds.length = k * 1 ∧ ∀ b, A = some b → ∀ j u, olds[j]? = some u → (wr.alloc (.cells #[.int .u8 99] 5)).cell? (b.add j) = some u := by
          rcases Nat.eq_zero_or_pos k with h0 | h0
          · exact ⟨[], by simp [h0], fun b _ j u hu => by simp at hu⟩
          · obtain ⟨g, cur, rfl, hbg, hbl, hsz, hx⟩ := h3.at_ h0
            refine ⟨cur.toList.take k, by simp; omega, fun b hb j u hu => ?_⟩
            injection hb with hb
            subst hb
            rw [Addr.add_lit, Nat.zero_add, hbl.cell j, ← Array.getElem?_toList]
            rw [List.getElem?_take] at hu
            split at hu
            · exact hu
            · cases hu
        have hnil := h.nil
        have HSP := Lib.hid (hsp.trans (SpU.below b1))
        have HGR := Lib.hid hgr
        have HO1 := Lib.hid ho1; have HO2 := Lib.hid ho2; have HNIL := Lib.hid hnil; have HHI := Lib.hid hi; have HHZ := Lib.hid hz; have HHS := Lib.hid hs; have HHB := Lib.hid hb
        clear h2 h3 ho1 ho2 h hgr hsp hnil hi hz hs hb
        go_wp2_with (at_builtin; refine wpList_append_grows _ rfl (.tmp 17) (.tmp 18) 29 rfl 5 i0 (.int .u8 0) 1 1 Tryz.underlying29 HHI.out HHZ.out HHS.out HHB.out rfl (by decide) A k k olds rfl HNIL.out HO1.out HO2.out ⟨wr.heap.size, 0, none⟩ 1 1 [.int .u8 99] rfl rfl (one_new _ _ _) one_one (by omega) (by unfold maxLen; omega) (by omega) ?_; intro v1 w2 o2 g2; obtain ⟨g1, c1, u1, rfl, hg1, hlt1, hc1, q1, q2, cur1, hB1⟩ := grown_row o2; have HO := Lib.hid hB1; clear o2 hB1)
        have hw2 : Below base w w2 := by
          refine (hbel.alloc (Nat.le_trans hB hbel.size) _).grown (row := none) g2 (by simp; exact Nat.le_trans hB (Nat.le_trans hbel.size (Nat.le_succ _))) (fun k hk => by cases hk)
        have hb2 : Below (wr.alloc (.cells #[.int .u8 99] 5)).heap.size (wr.alloc (.cells #[.int .u8 99] 5)) w2 := (Below.refl _ _).grown (row := none) g2 (Nat.le_refl _) (fun k hk => by cases hk)
        have hbg1 : base ≤ g1 := Nat.le_trans hB (Nat.le_trans hbel.size (Nat.le_trans b1.size hg1))
        go_end0
        refine ⟨rfl, hw2.setCell (p := ⟨g1, k, none⟩) hbg1 _, (HSP.out.trans (SpU.below hb2)).trans (SpU.set_ w2 HO.out k 98 rfl), ?_⟩
        refine grown_setCell (p := ⟨g1, k, none⟩) (World.grownBy.trans (grown_alloc HGR.out _) (grown_of_below hb2 _)) (.inr ?_) _
        exact Nat.le_trans hbel.size (Nat.le_trans b1.size hg1)
/-- Bytes of the call's own, whose capacity may end ahead of their block's end. -/
structure OW (w : World) (base : Nat) (A : Option Addr) (n c : Nat) (l : List UInt8) : Prop where
  len : l.length = n
  le : n ≤ c
  cap : c ≤ 9223372036854775807
  nil : A = none → n = 0 ∧ c = 0
  at_ : 0 < c → ∃ g cur, A = some ⟨g, 0, none⟩ ∧ base ≤ g ∧ Blk w g 5 cur ∧ c ≤ cur.size ∧ cur.toList.take n = l.map bv
section
variable {w w' : World} {base base' n c : Nat} {A : Option Addr} {l : List UInt8}
theorem OB.ow (h : OB w base A n c l) : OW w base A n c l := by
  refine ⟨h.rb.len, h.rb.le, h.rb.cap, h.rb.nil, fun hc => ?_⟩
  rcases h.2 with ⟨hv, _⟩ | ⟨g, cap, cur, hv, hb, hg, hnc, hcm, hcs, ht⟩
  · injection hv with _ _ h3; omega
  · injection hv with h1 h2 h3
    subst h1 h3
    exact ⟨g, cur, rfl, hb, hg, by omega, by simpa using ht⟩
theorem OW.wb (h : OW w base A n c l) : WB w base A n c := by
  refine ⟨h.le, h.cap, h.nil, fun hc => ?_⟩
  obtain ⟨g, cur, e, hg, hb, hs, ht⟩ := h.at_ hc
  refine ⟨g, cur, e, hg, hb, hs, fun i hi => ⟨l.getD i 0, ?_⟩⟩
  have hl := h.len
  have : (l.map bv)[i]? = cur.toList[i]? := by rw [← ht, List.getElem?_take, if_pos (by omega)]
  rw [← Array.getElem?_toList, ← this]
  simp [List.getD, List.getElem?_eq_getElem (show i < l.length by omega)]
theorem OW.rb (h : OW w base A n c l) : RB w w.heap.size A n c l := by
  have hl := h.len
  have hle := h.le
  refine ⟨hl, hle, h.cap, h.nil, fun hn => ?_⟩
  obtain ⟨g, cur, rfl, hg, hb, hs, ht⟩ := h.at_ (by omega)
  refine ⟨g, 0, rfl, hb.lt, fun i hi => ?_⟩
  rw [Nat.zero_add, hb.cell i]
  have : (l.map bv)[i]? = cur.toList[i]? := by rw [← ht, List.getElem?_take, if_pos (by omega)]
  rw [← Array.getElem?_toList, ← this]
  simp [List.getD, List.getElem?_eq_getElem (show i < l.length by omega), bv]
theorem OW.cut (h : OW w base A n c l) {k : Nat} (hk : k ≤ n) : OW w base A k k (l.take k) := by
  have hle := h.le
  have hcap := h.cap
  refine ⟨by rw [List.length_take, h.len]; omega, Nat.le_refl _, by omega, fun e => by have := h.nil e; omega, fun hc => ?_⟩
  obtain ⟨g, cur, e, hg, hb, hs, ht⟩ := h.at_ (by omega)
  refine ⟨g, cur, e, hg, hb, by omega, ?_⟩
  rw [List.map_take, ← ht, List.take_take, Nat.min_eq_left hk]
theorem OW.more (h : OW w base A n c l) (hb : base' ≤ base) : OW w base' A n c l :=
  ⟨h.len, h.le, h.cap, h.nil, fun hc => by obtain ⟨g, cur, e, hg, r⟩ := h.at_ hc; exact ⟨g, cur, e, by omega, r⟩⟩
theorem OW.below (h : OW w base A n c l) (hb : Below w.heap.size w w') : OW w' base A n c l :=
  ⟨h.len, h.le, h.cap, h.nil, fun hc => by obtain ⟨g, cur, e, hg, k, r⟩ := h.at_ hc; exact ⟨g, cur, e, hg, k.later hb, r⟩⟩
theorem OW.grown {row : Option Nat} (h : OW w base A n c l) (hg : w.grownBy w' row) (hne : ∀ g cur, Blk w g 5 cur → some g ≠ row) : OW w' base A n c l :=
  ⟨h.len, h.le, h.cap, h.nil, fun hc => by obtain ⟨g, cur, e, hb, k, r⟩ := h.at_ hc; exact ⟨g, cur, e, hb, k.grown hg (hne g cur k), r⟩⟩
/-- Beside an append to a row of other elements. -/
theorem OW.beside {base' e size m c' : Nat} {A' : Option Addr} {xs : List Value} (h : OW w base A n c l) (h' : OV w base' e size A' m c' xs) (hne : e ≠ 5) (hg : w.grownBy w' (Value.slice A' m c').ownBlock) : OW w' base A n c l :=
  h.grown hg fun _ _ hb he => own_blk_ne h' hb hne he.symm
theorem OW.none_ (w : World) (base : Nat) : OW w base none 0 0 [] := ⟨rfl, Nat.le_refl _, by omega, fun _ => ⟨rfl, rfl⟩, fun h => absurd h (by omega)⟩
end
end Go.Proofs.YtmolmpgampmolaaGreat
/-
  Entries as cells; a block of eleven cells that is known whole.
  Conditions: none.
-/
namespace Go.Proofs.YtmolmpgampmolaaGreat
set_option linter.unusedVariables false
set_option linter.unusedSimpArgs false
open Go.RowKit
/-- The cells of an entry. -/
def enL (e : Ent.En) (A : Option Addr) (n c : Nat) : List Value := [.int .i64 e.index, .int .i64 e.sub, .string (T e.name), .int .i64 e.type, .int .i64 e.access, .bool e.map, .bool e.store, .int .i64 e.max, .int .i64 e.low, .int .i64 e.high, .slice A n c]
def enV (e : Ent.En) (A : Option Addr) (n c : Nat) : Value := .agg #[.int .i64 e.index, .int .i64 e.sub, .string (T e.name), .int .i64 e.type, .int .i64 e.access, .bool e.map, .bool e.store, .int .i64 e.max, .int .i64 e.low, .int .i64 e.high, .slice A n c]
theorem Blk.eleven {w : World} {g : Nat} {t : TypeId} {x0 x1 x2 x3 x4 x5 x6 x7 x8 x9 x10 : Value} (h : Blk w g t #[x0, x1, x2, x3, x4, x5, x6, x7, x8, x9, x10]) : (w.cell? ⟨g, 0, none⟩ = some x0 ∧ w.cell? ⟨g, 1, none⟩ = some x1 ∧ w.cell? ⟨g, 2, none⟩ = some x2 ∧ w.cell? ⟨g, 3, none⟩ = some x3 ∧ w.cell? ⟨g, 4, none⟩ = some x4 ∧ w.cell? ⟨g, 5, none⟩ = some x5 ∧ w.cell? ⟨g, 6, none⟩ = some x6 ∧ w.cell? ⟨g, 7, none⟩ = some x7 ∧ w.cell? ⟨g, 8, none⟩ = some x8 ∧ w.cell? ⟨g, 9, none⟩ = some x9 ∧ w.cell? ⟨g, 10, none⟩ = some x10) ∧ (w.frozen? ⟨g, 0, none⟩ = false ∧ w.frozen? ⟨g, 1, none⟩ = false ∧ w.frozen? ⟨g, 2, none⟩ = false ∧ w.frozen? ⟨g, 3, none⟩ = false ∧ w.frozen? ⟨g, 4, none⟩ = false ∧ w.frozen? ⟨g, 5, none⟩ = false ∧ w.frozen? ⟨g, 6, none⟩ = false ∧ w.frozen? ⟨g, 7, none⟩ = false ∧ w.frozen? ⟨g, 8, none⟩ = false ∧ w.frozen? ⟨g, 9, none⟩ = false ∧ w.frozen? ⟨g, 10, none⟩ = false) := ⟨⟨h.cell 0, h.cell 1, h.cell 2, h.cell 3, h.cell 4, h.cell 5, h.cell 6, h.cell 7, h.cell 8, h.cell 9, h.cell 10⟩, h.frozen 0, h.frozen 1, h.frozen 2, h.frozen 3, h.frozen 4, h.frozen 5, h.frozen 6, h.frozen 7, h.frozen 8, h.frozen 9, h.frozen 10⟩
theorem Blk.store11 {w : World} {g : Nat} {t : TypeId} {x0 x1 x2 x3 x4 x5 x6 x7 x8 x9 x10 : Value} (h : Blk w g t #[x0, x1, x2, x3, x4, x5, x6, x7, x8, x9, x10]) (y0 y1 y2 y3 y4 y5 y6 y7 y8 y9 y10 : Value) : Blk (World.setCell (World.setCell (World.setCell (World.setCell (World.setCell (World.setCell (World.setCell (World.setCell (World.setCell (World.setCell (World.setCell w ⟨g, 0, none⟩ y0) ⟨g, 1, none⟩ y1) ⟨g, 2, none⟩ y2) ⟨g, 3, none⟩ y3) ⟨g, 4, none⟩ y4) ⟨g, 5, none⟩ y5) ⟨g, 6, none⟩ y6) ⟨g, 7, none⟩ y7) ⟨g, 8, none⟩ y8) ⟨g, 9, none⟩ y9) ⟨g, 10, none⟩ y10) g t #[y0, y1, y2, y3, y4, y5, y6, y7, y8, y9, y10] := by
  have h0 : Blk _ g t #[y0, x1, x2, x3, x4, x5, x6, x7, x8, x9, x10] := h.set_ 0 y0
  have h1 : Blk _ g t #[y0, y1, x2, x3, x4, x5, x6, x7, x8, x9, x10] := h0.set_ 1 y1
  have h2 : Blk _ g t #[y0, y1, y2, x3, x4, x5, x6, x7, x8, x9, x10] := h1.set_ 2 y2
  have h3 : Blk _ g t #[y0, y1, y2, y3, x4, x5, x6, x7, x8, x9, x10] := h2.set_ 3 y3
  have h4 : Blk _ g t #[y0, y1, y2, y3, y4, x5, x6, x7, x8, x9, x10] := h3.set_ 4 y4
  have h5 : Blk _ g t #[y0, y1, y2, y3, y4, y5, x6, x7, x8, x9, x10] := h4.set_ 5 y5
  have h6 : Blk _ g t #[y0, y1, y2, y3, y4, y5, y6, x7, x8, x9, x10] := h5.set_ 6 y6
  have h7 : Blk _ g t #[y0, y1, y2, y3, y4, y5, y6, y7, x8, x9, x10] := h6.set_ 7 y7
  have h8 : Blk _ g t #[y0, y1, y2, y3, y4, y5, y6, y7, y8, x9, x10] := h7.set_ 8 y8
  have h9 : Blk _ g t #[y0, y1, y2, y3, y4, y5, y6, y7, y8, y9, x10] := h8.set_ 9 y9
  have h10 : Blk _ g t #[y0, y1, y2, y3, y4, y5, y6, y7, y8, y9, y10] := h9.set_ 10 y10
  exact h10
theorem below_set11 {B : Nat} {a w : World} {g : Nat} (h : Below B a w) (hg : B ≤ g) (y0 y1 y2 y3 y4 y5 y6 y7 y8 y9 y10 : Value) : Below B a (World.setCell (World.setCell (World.setCell (World.setCell (World.setCell (World.setCell (World.setCell (World.setCell (World.setCell (World.setCell (World.setCell w ⟨g, 0, none⟩ y0) ⟨g, 1, none⟩ y1) ⟨g, 2, none⟩ y2) ⟨g, 3, none⟩ y3) ⟨g, 4, none⟩ y4) ⟨g, 5, none⟩ y5) ⟨g, 6, none⟩ y6) ⟨g, 7, none⟩ y7) ⟨g, 8, none⟩ y8) ⟨g, 9, none⟩ y9) ⟨g, 10, none⟩ y10) := (((((((((((h.setCell (p := ⟨g, 0, none⟩) hg y0).setCell (p := ⟨g, 1, none⟩) hg y1).setCell (p := ⟨g, 2, none⟩) hg y2).setCell (p := ⟨g, 3, none⟩) hg y3).setCell (p := ⟨g, 4, none⟩) hg y4).setCell (p := ⟨g, 5, none⟩) hg y5).setCell (p := ⟨g, 6, none⟩) hg y6).setCell (p := ⟨g, 7, none⟩) hg y7).setCell (p := ⟨g, 8, none⟩) hg y8).setCell (p := ⟨g, 9, none⟩) hg y9).setCell (p := ⟨g, 10, none⟩) hg y10)
theorem OB.far11 {w : World} {base g n c : Nat} {A : Option Addr} {l : List UInt8} (h : OB w base A n c l) (hg : g < base) (y0 y1 y2 y3 y4 y5 y6 y7 y8 y9 y10 : Value) : OB (World.setCell (World.setCell (World.setCell (World.setCell (World.setCell (World.setCell (World.setCell (World.setCell (World.setCell (World.setCell (World.setCell w ⟨g, 0, none⟩ y0) ⟨g, 1, none⟩ y1) ⟨g, 2, none⟩ y2) ⟨g, 3, none⟩ y3) ⟨g, 4, none⟩ y4) ⟨g, 5, none⟩ y5) ⟨g, 6, none⟩ y6) ⟨g, 7, none⟩ y7) ⟨g, 8, none⟩ y8) ⟨g, 9, none⟩ y9) ⟨g, 10, none⟩ y10) base A n c l := (((((((((((h.far hg 0 y0).far hg 1 y1).far hg 2 y2).far hg 3 y3).far hg 4 y4).far hg 5 y5).far hg 6 y6).far hg 7 y7).far hg 8 y8).far hg 9 y9).far hg 10 y10)
theorem Blk.far11 {w : World} {g k : Nat} {t : TypeId} {cs : Array Value} (h : Blk w k t cs) (hk : k ≠ g) (y0 y1 y2 y3 y4 y5 y6 y7 y8 y9 y10 : Value) : Blk (World.setCell (World.setCell (World.setCell (World.setCell (World.setCell (World.setCell (World.setCell (World.setCell (World.setCell (World.setCell (World.setCell w ⟨g, 0, none⟩ y0) ⟨g, 1, none⟩ y1) ⟨g, 2, none⟩ y2) ⟨g, 3, none⟩ y3) ⟨g, 4, none⟩ y4) ⟨g, 5, none⟩ y5) ⟨g, 6, none⟩ y6) ⟨g, 7, none⟩ y7) ⟨g, 8, none⟩ y8) ⟨g, 9, none⟩ y9) ⟨g, 10, none⟩ y10) k t cs := (((((((((((h.far (p := ⟨g, 0, none⟩) hk y0).far (p := ⟨g, 1, none⟩) hk y1).far (p := ⟨g, 2, none⟩) hk y2).far (p := ⟨g, 3, none⟩) hk y3).far (p := ⟨g, 4, none⟩) hk y4).far (p := ⟨g, 5, none⟩) hk y5).far (p := ⟨g, 6, none⟩) hk y6).far (p := ⟨g, 7, none⟩) hk y7).far (p := ⟨g, 8, none⟩) hk y8).far (p := ⟨g, 9, none⟩) hk y9).far (p := ⟨g, 10, none⟩) hk y10)
end Go.Proofs.YtmolmpgampmolaaGreat
