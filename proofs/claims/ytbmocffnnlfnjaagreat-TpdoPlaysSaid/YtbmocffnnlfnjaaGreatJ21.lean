/-
  Texts joined: DicTwo, TpdTl, CobRef, PhaseTwo.
  Conditions: none.
-/
import Derived.Test.YtbmocffnnlfnjaaGreatJ02
import Derived.Test.YtbmocffnnlfnjaaGreatJ04
import Derived.Test.YtbmocffnnlfnjaaGreatJ12
import Derived.Test.YtbmocffnnlfnjaaGreatJ16
import Derived.Test.YtbmocffnnlfnjaaGreatJ18
import Derived.Test.YtbmocffnnlfnjaaGreatJ20
/-
  A dictionary of the program and one of the reference, beside one another.
  Conditions: none.
-/
namespace Go.Proofs.YtbmocffnnlfnjaaGreat.Dc
set_option linter.unusedVariables false
set_option linter.unusedSimpArgs false
/-- Values poked, one after the other. -/
def pokesS (D : Dic) (l : List Vl) : Dic := l.foldl (fun D v => pokeS D v.index v.sub v.data) D
theorem pokes_take (D : Dic) (l : List Vl) {k : Nat} (hk : k < l.length) : pokesS D (l.take (k + 1)) = pokeS (pokesS D (l.take k)) (l.getD k ⟨0, 0, []⟩).index (l.getD k ⟨0, 0, []⟩).sub (l.getD k ⟨0, 0, []⟩).data := by
  unfold pokesS
  rw [List.take_succ_eq_append_getElem hk, List.foldl_append, List.getD_eq_getElem?_getD, List.getElem?_eq_getElem hk]
  rfl
theorem poke_l (D : Dic) (x y : Int) (b : List UInt8) : (pokeS D x y b).l = D.l := by
  unfold pokeS
  split
  · rfl
  · split <;> rfl
theorem pokes_l : ∀ (l : List Vl) (D : Dic), (pokesS D l).l = D.l
  | [], _ => rfl
  | v :: l, D => by
    show (pokesS (pokeS D v.index v.sub v.data) l).l = D.l
    rw [pokes_l l, poke_l]
/-- What its values fulfil: as long as is let, and right. -/
structure Fine (D : Dic) : Prop where
  len : D.v.length = D.l.length
  sm : ∀ v ∈ D.v, v.length ≤ 2000
  ok : ∀ k, k < D.l.length → Ent.valS (D.l.getD k en0) (D.v.getD k []) = 0
theorem getD_set {α : Type} (L : List α) (i k : Nat) (b d : α) : (L.set i b).getD k d = if i = k ∧ k < L.length then b else L.getD k d := by
  rw [List.getD_eq_getElem?_getD, List.getElem?_set, List.getD_eq_getElem?_getD]
  by_cases h : i = k
  · subst h
    by_cases h2 : i < L.length
    · simp [h2]
    · rw [if_pos rfl, if_neg h2, if_neg (by omega), List.getElem?_eq_none (by omega)]
  · simp [h]
theorem Fine.poke {D : Dic} (h : Fine D) (x y : Int) {b : List UInt8} (hb : b.length ≤ 2000) : Fine (pokeS D x y b) := by
  unfold pokeS
  cases hf : findS D.l x y with
  | none => exact h
  | some k =>
    dsimp only
    split
    · rename_i hv
      refine ⟨by rw [List.length_set]; exact h.len, fun v hv' => ?_, fun i hi => ?_⟩
      · rcases List.mem_or_eq_of_mem_set hv' with h1 | h1
        · exact h.sm v h1
        · subst h1; exact hb
      · dsimp only at hi ⊢
        rw [getD_set]
        split
        · rename_i h2
          rw [← h2.1]
          exact hv
        · exact h.ok i hi
    · exact h
theorem Fine.pokes {vs : List Vl} (hb : ∀ v ∈ vs, v.data.length ≤ 2000) : ∀ {D : Dic}, Fine D → Fine (pokesS D vs) := by
  induction vs with
  | nil => exact fun h => h
  | cons v l ih => exact fun h => ih (fun x hx => hb x (List.mem_cons_of_mem _ hx)) (h.poke _ _ (hb v (List.mem_cons_self ..)))
/-- A new dictionary's values. -/
theorem Fine.new {es : List Ent.En} (h : (newS es).1 = 0) (hs : ∀ e ∈ es, e.dflt.length ≤ 2000) : Fine ⟨es, es.map (·.dflt)⟩ := by
  obtain ⟨_, _, h3⟩ := new_ok h
  refine ⟨by simp, fun v hv => ?_, fun k hk => ?_⟩
  · obtain ⟨e, he, rfl⟩ := List.mem_map.1 hv
    exact hs e he
  · dsimp only at hk ⊢
    have e1 : (es.map (·.dflt)).getD k [] = (es.getD k en0).dflt := by
      simp [List.getD, List.getElem?_map, List.getElem?_eq_getElem hk]
    rw [e1]
    have hm : es.getD k en0 ∈ es := by
      rw [List.getD_eq_getElem?_getD, List.getElem?_eq_getElem hk]
      exact List.getElem_mem hk
    exact (Ent.right_iff (h3 _ hm)).2.2.2.2.2.2.2.2
end Go.Proofs.YtbmocffnnlfnjaaGreat.Dc
namespace Go.Proofs.YtbmocffnnlfnjaaGreat
set_option linter.unusedVariables false
set_option linter.unusedSimpArgs false
open Go.RowKit
section
variable {t : TypeId} {F : Nat → Prop} {w w' : World} {g gv lc vc : Nat} {lA vA : Option Addr} {xs vs : List Value} {D : Dc.Dic}
/-- Its values' row, where it is, or a place that is not there. -/
theorem DRt.fix (h : DRt t w F g gv lA lc vA vc xs vs D) : ∃ gv2, DRt t w F g gv2 lA lc vA vc xs vs D ∧ (F gv2 ∨ gv2 = w.heap.size) := by
  cases hk : (Value.slice vA D.l.length vc).ownBlock with
  | some k =>
    have := h.at_ k hk
    exact ⟨gv, h, .inl this.2⟩
  | none =>
    have h0 : D.l.length = 0 := by
      rcases Nat.eq_zero_or_pos D.l.length with h0 | h0
      · exact h0
      · obtain ⟨q, e, _, _⟩ := h.own.head h0
        subst e
        simp [Value.ownBlock] at hk
    have hl : D.l = [] := List.eq_nil_of_length_eq_zero h0
    have hv : D.v = [] := List.eq_nil_of_length_eq_zero (by rw [h.len, h0])
    refine ⟨w.heap.size, { fg := h.fg, ne := (by have := h.blk.lt; omega), blk := h.blk, row := ⟨h.row.len, h.row.le, h.row.cap, h.row.nil, fun h1 => absurd h1 (by omega)⟩, rows := ⟨h.rows.1, fun i f hf => by rw [hl] at hf; simp at hf⟩, own := h.own, at_ := (fun k hk2 => by rw [hk] at hk2; cases hk2), vals := ⟨h.vals.1, fun i f hf => by rw [hv] at hf; simp at hf⟩, len := h.len, ord := h.ord, few := h.few, right := h.right }, .inr rfl⟩
/-- Blocks that are there. -/
theorem DRt.cut (h : DRt t w F g gv lA lc vA vc xs vs D) : DRt t w (fun q => F q ∧ q < w.heap.size) g gv lA lc vA vc xs vs D := h.mono fun _ hb hf => ⟨hf, hb⟩
end
/-- A dictionary, its blocks from 'base' on. -/
def One (t : TypeId) (w : World) (base g : Nat) (F : Nat → Prop) (D : Dc.Dic) : Prop := ∃ (gv lc vc : Nat) (la : Addr) (vA : Option Addr) (xs vs : List Value), DRt t w F g gv (some la) lc vA vc xs vs D ∧ ∀ q, F q → base ≤ q ∧ q < w.heap.size
def OneR (t : TypeId) (w : World) (base g : Nat) (F : Nat → Prop) (D : Dc.Dic) : Prop := ∃ (gv lc vc : Nat) (lA vA : Option Addr) (xs vs : List Value), DRt t w F g gv lA lc vA vc xs vs D ∧ ∀ q, F q → base ≤ q ∧ q < w.heap.size
section
variable {t : TypeId} {F G : Nat → Prop} {w w' : World} {base g : Nat} {D : Dc.Dic}
theorem One.r (h : One t w base g F D) : OneR t w base g F D := by
  obtain ⟨gv, lc, vc, la, vA, xs, vs, h1, h2⟩ := h
  exact ⟨gv, lc, vc, some la, vA, xs, vs, h1, h2⟩
theorem One.mv (h : One t w base g F D) (hm : Mv G w w') (hd : ∀ b, b < w.heap.size → F b → ¬ G b) : One t w' base g F D := by
  obtain ⟨gv, lc, vc, la, vA, xs, vs, h1, h2⟩ := h
  exact ⟨gv, lc, vc, la, vA, xs, vs, h1.mv hm hd, fun q hq => by have := h2 q hq; have := hm.size; omega⟩
theorem OneR.mv (h : OneR t w base g F D) (hm : Mv G w w') (hd : ∀ b, b < w.heap.size → F b → ¬ G b) : OneR t w' base g F D := by
  obtain ⟨gv, lc, vc, la, vA, xs, vs, h1, h2⟩ := h
  exact ⟨gv, lc, vc, la, vA, xs, vs, h1.mv hm hd, fun q hq => by have := h2 q hq; have := hm.size; omega⟩
theorem One.below (h : One t w base g F D) (hb : Below w.heap.size w w') : One t w' base g F D := h.mv (Mv.of_new hb fun _ => False) fun _ _ _ h => h
theorem OneR.below (h : OneR t w base g F D) (hb : Below w.heap.size w w') : OneR t w' base g F D := h.mv (Mv.of_new hb fun _ => False) fun _ _ _ h => h
theorem One.lt (h : One t w base g F D) : ∀ q, F q → base ≤ q ∧ q < w.heap.size := by
  obtain ⟨gv, lc, vc, la, vA, xs, vs, h1, h2⟩ := h; exact h2
theorem OneR.lt (h : OneR t w base g F D) : ∀ q, F q → base ≤ q ∧ q < w.heap.size := by
  obtain ⟨gv, lc, vc, la, vA, xs, vs, h1, h2⟩ := h; exact h2
end
section
variable {F F' : Nat → Prop} {w : World} {base g n c B : Nat} {A : Option Addr} {b : List UInt8} {D : Dc.Dic}
/-- What a poke does to a dictionary of the program. -/
theorem One.poke (h : One 66 w base g F D) (hbase : base ≤ w.heap.size) (x y : Int) (hb : RB w B A n c b) (hB : B ≤ w.heap.size) (hn : n < 140737488355328) :
    Calls Tryz.prog 21 #[.pointer (some ⟨g, 0, none⟩), .int .i64 x, .int .i64 y, .slice A n c] w fun e w' => e = .returned (.int .u32 (Dc.mayS D.l true x y b)) ∧ Mv F w w' ∧ Below base w w' ∧ One 66 w' base g (fun q => F q ∨ (w.heap.size ≤ q ∧ q < w'.heap.size)) (Dc.pokeS D x y b) := by
  obtain ⟨gv, lc, vc, la, vA, xs, vs, h1, h2⟩ := h
  obtain ⟨gv2, h3, h4⟩ := h1.fix
  refine (dPoke_any x y h3 hb hB hn).mono ?_
  rintro e w' ⟨he, hm, vs', hd⟩
  have hm' : Mv F w w' := hm.mono fun q hq e => by
    rcases h4 with h4 | h4
    · rw [e]; exact h4
    · omega
  have hlow : base ≤ gv2 := by
    rcases h4 with h4 | h4
    · exact (h2 _ h4).1
    · omega
  refine ⟨he, hm', hm.below hbase fun q e => by subst e; exact hlow, gv2, lc, vc, la, vA, xs, vs', hd, fun q hq => ?_⟩
  have hz := hm.size
  rcases hq with hq | hq
  · have := h2 q hq; omega
  · omega
theorem OneR.poke (h : OneR 72 w base g F D) (hbase : base ≤ w.heap.size) (x y : Int) (hb : RB w B A n c b) (hB : B ≤ w.heap.size) (hn : n < 140737488355328) :
    Calls Tryz.prog 22 #[.pointer (some ⟨g, 0, none⟩), .int .i64 x, .int .i64 y, .slice A n c] w fun e w' => e = .returned (.int .u32 (Dc.mayS D.l true x y b)) ∧ Mv F w w' ∧ Below base w w' ∧ OneR 72 w' base g (fun q => F q ∨ (w.heap.size ≤ q ∧ q < w'.heap.size)) (Dc.pokeS D x y b) := by
  obtain ⟨gv, lc, vc, la, vA, xs, vs, h1, h2⟩ := h
  obtain ⟨gv2, h3, h4⟩ := h1.fix
  refine (rPoke_any x y h3 hb hB hn).mono ?_
  rintro e w' ⟨he, hm, vs', hd⟩
  have hm' : Mv F w w' := hm.mono fun q hq e => by
    rcases h4 with h4 | h4
    · rw [e]; exact h4
    · omega
  have hlow : base ≤ gv2 := by
    rcases h4 with h4 | h4
    · exact (h2 _ h4).1
    · omega
  refine ⟨he, hm', hm.below hbase fun q e => by subst e; exact hlow, gv2, lc, vc, la, vA, xs, vs', hd, fun q hq => ?_⟩
  have hz := hm.size
  rcases hq with hq | hq
  · have := h2 q hq; omega
  · omega
end
/-- Both of them, apart. -/
def Two (w : World) (base g g' : Nat) (D D' : Dc.Dic) : Prop := ∃ F F' : Nat → Prop, One 66 w base g F D ∧ OneR 72 w base g' F' D' ∧ ∀ q, F q → ¬ F' q
section
variable {w w' : World} {base base' g g' n c B : Nat} {A : Option Addr} {b : List UInt8} {D D' : Dc.Dic}
theorem Two.below (h : Two w base g g' D D') (hb : Below w.heap.size w w') : Two w' base g g' D D' := by
  obtain ⟨F, F', h1, h2, h3⟩ := h
  exact ⟨F, F', h1.below hb, h2.below hb, h3⟩
theorem Two.more (h : Two w base g g' D D') (hb : base' ≤ base) : Two w base' g g' D D' := by
  obtain ⟨F, F', ⟨gv, lc, vc, la, vA, xs, vs, h1, h2⟩, ⟨gv', lc', vc', lA', vA', xs', vs', h3, h4⟩, h5⟩ := h
  exact ⟨F, F', ⟨gv, lc, vc, la, vA, xs, vs, h1, fun q hq => by have := h2 q hq; omega⟩, ⟨gv', lc', vc', lA', vA', xs', vs', h3, fun q hq => by have := h4 q hq; omega⟩, h5⟩
theorem Two.pokeD (h : Two w base g g' D D') (hbase : base ≤ w.heap.size) (x y : Int) (hb : RB w B A n c b) (hB : B ≤ w.heap.size) (hn : n < 140737488355328) :
    Calls Tryz.prog 21 #[.pointer (some ⟨g, 0, none⟩), .int .i64 x, .int .i64 y, .slice A n c] w fun e w' => e = .returned (.int .u32 (Dc.mayS D.l true x y b)) ∧ Below base w w' ∧ Two w' base g g' (Dc.pokeS D x y b) D' := by
  obtain ⟨F, F', h1, h2, h3⟩ := h
  refine (h1.poke hbase x y hb hB hn).mono ?_
  rintro e w' ⟨he, hm, hbl, ho⟩
  refine ⟨he, hbl, _, F', ho, h2.mv hm fun q _ hf hf2 => h3 q hf2 hf, fun q hq hq2 => ?_⟩
  rcases hq with hq | hq
  · exact h3 q hq hq2
  · have := (h2.lt q hq2).2; omega
theorem Two.pokeR (h : Two w base g g' D D') (hbase : base ≤ w.heap.size) (x y : Int) (hb : RB w B A n c b) (hB : B ≤ w.heap.size) (hn : n < 140737488355328) :
    Calls Tryz.prog 22 #[.pointer (some ⟨g', 0, none⟩), .int .i64 x, .int .i64 y, .slice A n c] w fun e w' => e = .returned (.int .u32 (Dc.mayS D'.l true x y b)) ∧ Below base w w' ∧ Two w' base g g' D (Dc.pokeS D' x y b) := by
  obtain ⟨F, F', h1, h2, h3⟩ := h
  refine (h2.poke hbase x y hb hB hn).mono ?_
  rintro e w' ⟨he, hm, hbl, ho⟩
  refine ⟨he, hbl, F, _, h1.mv hm fun q _ hf hf2 => h3 q hf hf2, ho, fun q hq hq2 => ?_⟩
  rcases hq2 with hq2 | hq2
  · exact h3 q hq hq2
  · have := (h1.lt q hq).2; omega
/-- Two that were made, one after the other. -/
theorem Two.new {w w1 w2 : World} {g gv lc vc g' gv' lc' vc' : Nat} {la : Addr} {vA lA' vA' : Option Addr} {xs vs xs' vs' : List Value} {D D' : Dc.Dic} (b1 : Below w.heap.size w w1) (b2 : Below w1.heap.size w1 w2)
    (h1 : DRt 66 w1 (fun q => w.heap.size ≤ q) g gv (some la) lc vA vc xs vs D) (h2 : DRt 72 w2 (fun q => w1.heap.size ≤ q) g' gv' lA' lc' vA' vc' xs' vs' D') : Two w2 w.heap.size g g' D D' := by
  have hz1 := b1.size
  have hz2 := b2.size
  exact ⟨_, _, ⟨gv, lc, vc, la, vA, xs, vs, h1.cut.below b2, fun q hq => by have := hq; omega⟩, ⟨gv', lc', vc', lA', vA', xs', vs', h2.cut, fun q hq => by have := hq; omega⟩, fun q hq hq2 => by have := hq; have := hq2; omega⟩
end
end Go.Proofs.YtbmocffnnlfnjaaGreat
/-
  A PDO of the program beside its dictionary: what its calls send, and that both are there again.
  Conditions: none.
-/
namespace Go.Proofs.YtbmocffnnlfnjaaGreat.Tp
set_option linter.unusedVariables false
set_option linter.unusedSimpArgs false
/-- A state that can be. -/
structure Ok (t inh ev : Int) (s : St) : Prop where
  kind : kindB t inh ev = true
  hold : 0 ≤ s.hold ∧ s.hold ≤ 65535
  left : 0 ≤ s.left ∧ s.left ≤ 65535
  count : 0 ≤ s.count ∧ s.count ≤ 1000
section
variable {t inh ev : Int} {s : St}
theorem Ok.rest (h : kindB t inh ev = true) : Ok t inh ev (restS ev) := ⟨h, by unfold restS; constructor <;> dsimp only <;> omega, (kind_parts h).2.2, by unfold restS; constructor <;> dsimp only <;> omega⟩
theorem Ok.sent (h : Ok t inh ev s) : Ok t inh ev (sentS inh ev s) := ⟨h.kind, (kind_parts h.kind).2.1, (kind_parts h.kind).2.2, h.count⟩
theorem Ok.trig (h : Ok t inh ev s) : Ok t inh ev (trigS t s).2 := by
  unfold trigS
  repeat' split
  all_goals exact ⟨h.kind, h.hold, h.left, h.count⟩
theorem Ok.tick (h : Ok t inh ev s) : Ok t inh ev (tickS t s).2 := by
  have h1 := h.hold
  have h2 := h.left
  unfold tickS downS
  split
  · refine ⟨h.kind, ?_, ?_, h.count⟩
    · dsimp only
      split <;> omega
    · dsimp only
      split <;> omega
  · exact h
theorem Ok.pulse (h : Ok t inh ev s) : Ok t inh ev (pulseS t s).2 := by
  have h1 := h.count
  have h2 := (kind_parts h.kind).1
  unfold pulseS
  split
  · exact h
  · split
    · exact h
    · split
      · exact ⟨h.kind, h.hold, h.left, by dsimp only; omega⟩
      · exact ⟨h.kind, h.hold, h.left, by dsimp only; omega⟩
end
end Go.Proofs.YtbmocffnnlfnjaaGreat.Tp
namespace Go.Proofs.YtbmocffnnlfnjaaGreat
set_option linter.unusedVariables false
set_option linter.unusedSimpArgs false
open Go.RowKit Go.Sort
theorem OV.mvk {w w' : World} {G : Nat → Prop} {base e size n c : Nat} {A : Option Addr} {xs : List Value} (h : OV w base e size A n c xs) (hm : Mv G w w') (hG : ∀ k, (Value.slice A n c).ownBlock = some k → ¬ G k) : OV w' base e size A n c xs := by
  refine ⟨h.1, ?_⟩
  rcases h.2 with h2 | ⟨k, cap, cur, hv, hg, hh, r⟩
  · exact .inl h2
  · exact .inr ⟨k, cap, cur, hv, hg, (hm.block k (Array.getElem?_eq_some_iff.1 hh).1 (hG k (by rw [hv]; rfl))).trans hh, r⟩
theorem OS.lowk {w w' : World} {G : Nat → Prop} {base n c : Nat} {A : Option Addr} {l : List Can.Fr} (h : OS (FrW w base) w base 60 3 A n c l) (hm : Mv G w w') (hG : ∀ q, G q → q < base) : OS (FrW w' base) w' base 60 3 A n c l := by
  obtain ⟨xs, k1, k2⟩ := h
  refine ⟨xs, k1.mvk hm fun k hk e => by have := (k1.lt k hk).1; have := hG k e; omega, k2.imp fun f cs hf => ?_⟩
  obtain ⟨A, n, c, e1, e2⟩ := hf
  exact ⟨A, n, c, e1, OV.mvk (show OV _ _ _ _ _ _ _ _ from e2) hm fun k hk e => by have := (OB.lt e2 k hk).1; have := hG k e; omega⟩
/-- A PDO and its dictionary; all their blocks are Fp's. -/
structure Tl (w : World) (Fp : Nat → Prop) (p gd v : Nat) (t inh ev : Int) (ws : List Nat) (s : Tp.St) (D : Dc.Dic) : Prop where
  ex : ∃ (F : Nat → Prop) (gv lc vc : Nat) (la : Addr) (vA : Option Addr) (xs vs : List Value) (Aw : Option Addr) (cw : Nat), DRt 66 w F gd gv (some la) lc vA vc xs vs D ∧ TpM w 0 p gd v t inh ev ws Aw cw s ∧ (∀ q, F q → Fp q ∧ q ≠ p ∧ (Value.slice Aw ws.length cw).ownBlock ≠ some q) ∧ Fp p ∧ ∀ k, (Value.slice Aw ws.length cw).ownBlock = some k → Fp k
  fine : Dc.Fine D
  dflt : ∀ e ∈ D.l, e.dflt.length ≤ 1000000
  words : ∀ x ∈ ws, x < 4294967296
  ok : Tp.Ok t inh ev s
theorem Dc.Fine.small {D : Dc.Dic} (h : Dc.Fine D) : ∀ v ∈ D.v, v.length ≤ 1000000 := fun v hv => by have := h.sm v hv; omega
section
variable {w w' : World} {Fp G : Nat → Prop} {p gd v : Nat} {t inh ev : Int} {ws : List Nat} {s : Tp.St} {D : Dc.Dic}
theorem TpM.mvk {base g gd v : Nat} {Aw : Option Addr} {cw : Nat} (h : TpM w base g gd v t inh ev ws Aw cw s) (hm : Mv G w w') (hg : ¬ G g) (hk : ∀ k, (Value.slice Aw ws.length cw).ownBlock = some k → ¬ G k) : TpM w' base g gd v t inh ev ws Aw cw s := ⟨h.gb, h.blk.mv hm hg, OV.mvk h.words hm hk⟩
theorem TpM.zero {base g gd v : Nat} {Aw : Option Addr} {cw : Nat} (h : TpM w base g gd v t inh ev ws Aw cw s) : TpM w 0 g gd v t inh ev ws Aw cw s := ⟨Nat.zero_le _, h.blk, OV.more h.words (Nat.zero_le _)⟩
theorem Tl.lt (h : Tl w Fp p gd v t inh ev ws s D) : Fp p ∧ p < w.heap.size := by
  obtain ⟨F, gv, lc, vc, la, vA, xs, vs, Aw, cw, hd, hp, h1, h2, h3⟩ := h.ex
  exact ⟨h2, hp.blk.lt⟩
theorem Tl.mv (h : Tl w Fp p gd v t inh ev ws s D) (hm : Mv G w w') (hd : ∀ b, b < w.heap.size → Fp b → ¬ G b) : Tl w' Fp p gd v t inh ev ws s D := by
  obtain ⟨F, gv, lc, vc, la, vA, xs, vs, Aw, cw, hr, hp, h1, h2, h3⟩ := h.ex
  exact ⟨⟨F, gv, lc, vc, la, vA, xs, vs, Aw, cw, hr.mv hm fun b hb hf => hd b hb (h1 b hf).1, hp.mvk hm (hd p hp.blk.lt h2) fun k hk => hd k (OV.lt hp.words k hk).2 (h3 k hk), h1, h2, h3⟩, h.fine, h.dflt, h.words, h.ok⟩
theorem Tl.below (h : Tl w Fp p gd v t inh ev ws s D) (hb : Below w.heap.size w w') : Tl w' Fp p gd v t inh ev ws s D := h.mv (Mv.of_new hb fun _ => False) fun _ _ _ h => h
theorem Tl.mono (h : Tl w Fp p gd v t inh ev ws s D) (hi : ∀ q, q < w.heap.size → Fp q → G q) : Tl w G p gd v t inh ev ws s D := by
  obtain ⟨F, gv, lc, vc, la, vA, xs, vs, Aw, cw, hr, hp, h1, h2, h3⟩ := h.ex
  exact ⟨⟨fun q => F q ∧ q < w.heap.size, gv, lc, vc, la, vA, xs, vs, Aw, cw, hr.cut, hp, fun q hq => ⟨hi q hq.2 (h1 q hq.1).1, (h1 q hq.1).2⟩, hi p hp.blk.lt h2, fun k hk => hi k (OV.lt hp.words k hk).2 (h3 k hk)⟩, h.fine, h.dflt, h.words, h.ok⟩
/-- What a call sends, and both behind it. -/
def TlOut (l : List Can.Fr) (Fp : Nat → Prop) (p gd v : Nat) (t inh ev : Int) (ws : List Nat) (s : Tp.St) (D : Dc.Dic) (w : World) (e : Ending) (w' : World) : Prop :=
  ∃ A c, e = .returned (.slice A l.length c) ∧ OS (FrW w' w.heap.size) w' w.heap.size 60 3 A l.length c l ∧ Mv (fun q => q = p) w w' ∧ Tl w' Fp p gd v t inh ev ws s D
theorem Tl.out {l : List Can.Fr} {s' : Tp.St} {gv lc vc : Nat} {la : Addr} {vA : Option Addr} {xs vs : List Value} {F : Nat → Prop} {Aw : Option Addr} {cw : Nat} {e : Ending} (h : Tl w Fp p gd v t inh ev ws s D) (hd : DRt 66 w F gd gv (some la) lc vA vc xs vs D) (h1 : ∀ q, F q → Fp q ∧ q ≠ p ∧ (Value.slice Aw ws.length cw).ownBlock ≠ some q) (h2 : Fp p) (h3 : ∀ k, (Value.slice Aw ws.length cw).ownBlock = some k → Fp k)
    (hs : SendP l 0 p gd v t inh ev ws Aw cw s' w e w') (ho : Tp.Ok t inh ev s') : TlOut l Fp p gd v t inh ev ws s' D w e w' := by
  obtain ⟨A, c, he, o, hm, ht⟩ := hs
  exact ⟨A, c, he, o, hm, ⟨F, gv, lc, vc, la, vA, xs, vs, Aw, cw, hd.mv hm fun b _ hf e => (h1 b hf).2.1 e, ht, h1, h2, h3⟩, h.fine, h.dflt, h.words, ho⟩
theorem stT_ok {x : Bool × Tp.St} (h : Tp.Ok t inh ev x.2) : Tp.Ok t inh ev (stT inh ev x) := by
  unfold stT
  split
  · exact h.sent
  · exact h
theorem Tl.trigger (h : Tl w Fp p gd v t inh ev ws s D) : Calls Tryz.prog 13 #[.pointer (some ⟨p, 0, none⟩)] w (TlOut (outT v (Tp.bytesS D v ws) (Tp.trigS t s)) Fp p gd v t inh ev ws (stT inh ev (Tp.trigS t s)) D w) := by
  obtain ⟨F, gv, lc, vc, la, vA, xs, vs, Aw, cw, hr, hp, h1, h2, h3⟩ := h.ex
  exact (Trigger_any hp hr (fun q hq => (h1 q hq).2.1) h.dflt h.fine.small h.words).mono fun e w' hs => h.out hr h1 h2 h3 hs (stT_ok h.ok.trig)
theorem Tl.tick (h : Tl w Fp p gd v t inh ev ws s D) : Calls Tryz.prog 15 #[.pointer (some ⟨p, 0, none⟩)] w (TlOut (outT v (Tp.bytesS D v ws) (Tp.tickS t s)) Fp p gd v t inh ev ws (stT inh ev (Tp.tickS t s)) D w) := by
  obtain ⟨F, gv, lc, vc, la, vA, xs, vs, Aw, cw, hr, hp, h1, h2, h3⟩ := h.ex
  exact (TTick_any hp h.ok.hold h.ok.left hr (fun q hq => (h1 q hq).2.1) h.dflt h.fine.small h.words).mono fun e w' hs => h.out hr h1 h2 h3 hs (stT_ok h.ok.tick)
theorem Tl.pulse (h : Tl w Fp p gd v t inh ev ws s D) : Calls Tryz.prog 17 #[.pointer (some ⟨p, 0, none⟩)] w (TlOut (outT v (Tp.bytesS D v ws) (Tp.pulseS t s)) Fp p gd v t inh ev ws (stT inh ev (Tp.pulseS t s)) D w) := by
  obtain ⟨F, gv, lc, vc, la, vA, xs, vs, Aw, cw, hr, hp, h1, h2, h3⟩ := h.ex
  exact (TPulse_any hp h.ok.count hr (fun q hq => (h1 q hq).2.1) h.dflt h.fine.small h.words).mono fun e w' hs => h.out hr h1 h2 h3 hs (stT_ok h.ok.pulse)
theorem Tl.rest (h : Tl w Fp p gd v t inh ev ws s D) : Calls Tryz.prog 19 #[.pointer (some ⟨p, 0, none⟩)] w fun e w' => e = .returned (.tuple #[]) ∧ Mv (fun q => q = p) w w' ∧ Tl w' Fp p gd v t inh ev ws (Tp.restS ev) D := by
  obtain ⟨F, gv, lc, vc, la, vA, xs, vs, Aw, cw, hr, hp, h1, h2, h3⟩ := h.ex
  refine (Rest_any hp).mono ?_
  rintro e w' ⟨he, hm, ht⟩
  exact ⟨he, hm, ⟨F, gv, lc, vc, la, vA, xs, vs, Aw, cw, hr.mv hm fun b _ hf e => (h1 b hf).2.1 e, ht, h1, h2, h3⟩, h.fine, h.dflt, h.words, Tp.Ok.rest h.ok.kind⟩
theorem Tl.id (h : Tl w Fp p gd v t inh ev ws s D) : Calls Tryz.prog 26 #[.pointer (some ⟨p, 0, none⟩)] w fun e w' => e = .returned (.int .i64 (Cob.pdo v : Int)) ∧ w = w' := by
  obtain ⟨F, gv, lc, vc, la, vA, xs, vs, Aw, cw, hr, hp, h1, h2, h3⟩ := h.ex
  exact TpId_any hp
theorem Tl.has (h : Tl w Fp p gd v t inh ev ws s D) (i j : Int) : Calls Tryz.prog 23 #[.pointer (some ⟨p, 0, none⟩), .int .i64 i, .int .i64 j] w fun e w' => e = .returned (.bool (Tp.hasS ws i j)) ∧ w = w' := by
  obtain ⟨F, gv, lc, vc, la, vA, xs, vs, Aw, cw, hr, hp, h1, h2, h3⟩ := h.ex
  exact THas_any hp h.words i j
theorem Tl.poke (h : Tl w Fp p gd v t inh ev ws s D) (x y : Int) {A : Option Addr} {n c B : Nat} {b : List UInt8} (hb : RB w B A n c b) (hB : B ≤ w.heap.size) (hn : n ≤ 1000) :
    Calls Tryz.prog 21 #[.pointer (some ⟨gd, 0, none⟩), .int .i64 x, .int .i64 y, .slice A n c] w fun e w' => e = .returned (.int .u32 (Dc.mayS D.l true x y b)) ∧ Mv Fp w w' ∧ Tl w' (fun q => Fp q ∨ (w.heap.size ≤ q ∧ q < w'.heap.size)) p gd v t inh ev ws s (Dc.pokeS D x y b) := by
  obtain ⟨F, gv, lc, vc, la, vA, xs, vs, Aw, cw, hr, hp, h1, h2, h3⟩ := h.ex
  have hpl := hp.blk.lt
  have hwl := OV.lt hp.words
  have hbl := hb.len
  refine (One.poke (base := 0) (F := fun q => F q ∧ q < w.heap.size) ⟨gv, lc, vc, la, vA, xs, vs, hr.cut, fun q hq => ⟨Nat.zero_le _, hq.2⟩⟩ (Nat.zero_le _) x y hb hB (by omega)).mono ?_
  rintro e w' ⟨he, hm, _, gv', lc', vc', la', vA', xs', vs', hd, _⟩
  have hfl := Dc.poke_l D x y b
  refine ⟨he, hm.mono fun q _ hq => (h1 q hq.1).1, ⟨_, gv', lc', vc', la', vA', xs', vs', Aw, cw, hd, hp.mvk hm (fun e => (h1 p e.1).2.1 rfl) (fun k hk e => (h1 k e.1).2.2 hk), fun q hq => ?_, .inl h2, fun k hk => .inl (h3 k hk)⟩, h.fine.poke x y (by omega), by rw [hfl]; exact h.dflt, h.words, h.ok⟩
  rcases hq with hq | hq
  · exact ⟨.inl (h1 q hq.1).1, (h1 q hq.1).2⟩
  · exact ⟨.inr hq, by omega, fun hk => by have := (hwl q hk).2; omega⟩
/-- A PDO that was made. -/
theorem Tl.new {F : Nat → Prop} {gv lc vc : Nat} {la : Addr} {vA : Option Addr} {xs vs : List Value} {Aw : Option Addr} {cw : Nat} (hd : DRt 66 w F gd gv (some la) lc vA vc xs vs D) (hF : ∀ q, F q → q < w.heap.size) (hb : Below w.heap.size w w') (hp : TpM w' w.heap.size p gd v t inh ev ws Aw cw s) (hf : Dc.Fine D) (hl : ∀ e ∈ D.l, e.dflt.length ≤ 1000000) (hwl : ∀ x ∈ ws, x < 4294967296) (ho : Tp.Ok t inh ev s) :
    Tl w' (fun q => F q ∨ (w.heap.size ≤ q ∧ q < w'.heap.size)) p gd v t inh ev ws s D := by
  have hpl := hp.blk.lt
  have hpg := hp.gb
  have hwk := OV.lt hp.words
  exact ⟨⟨F, gv, lc, vc, la, vA, xs, vs, Aw, cw, hd.below hb, hp.zero, fun q hq => ⟨.inl hq, by have := hF q hq; omega, fun hk => by have := (hwk q hk).1; have := hF q hq; omega⟩, .inr ⟨hpg, hpl⟩, fun k hk => .inr (hwk k hk)⟩, hf, hl, hwl, ho⟩
end
end Go.Proofs.YtbmocffnnlfnjaaGreat
/-
  Walks: the references' Split and Restricted of layer 11, and why a word can not be a PDO's.
  Conditions: none.
-/
namespace Go.Proofs.YtbmocffnnlfnjaaGreat
set_option linter.unusedVariables false
set_option linter.unusedSimpArgs false
open Go.RowKit
set_option maxRecDepth 100000 in
set_option maxHeartbeats 1000000 in
theorem RCSplit_bad (v : Nat) (hv : v < 4294967296) (h : Cob.bad v = true) (w : World) : Calls Tryz.prog 54 #[.int .u32 (v : Int)] w fun e w' => e = .returned (.tuple #[.agg #[.bool false, .bool false, .int .i64 0], .int .i64 4]) ∧ Below w.heap.size w w' := by
  have h2 : 2048 ≤ v % 1073741824 := by unfold Cob.bad at h; exact of_decide_eq_true h
  have b0 := alloc_one w (.cells #[.bool false, .bool false, .int .i64 0] 93)
  have K := Blk.new w 93 #[.bool false, .bool false, .int .i64 0]
  have F := K.three
  have e1 : Int.tmod (v : Int) 1073741824 = ((v % 1073741824 : Nat) : Int) := by rw [Int.tmod_eq_emod_of_nonneg (by omega)]; omega
  clear h
  generalize v % 1073741824 = r at *
  go_enter Tryz.func54, Tryz.ntmps54
  go_wp2_with fail
  have R := K.three
  exact bodyPost_ret (v := .tuple #[.agg #[.bool false, .bool false, .int .i64 0], .int .i64 4]) (by simp [results, Tryz.results54, go_sem, R]) rfl ⟨rfl, b0⟩
set_option maxRecDepth 100000 in
set_option maxHeartbeats 1000000 in
theorem RCSplit_ok (v : Nat) (hv : v < 4294967296) (h : Cob.bad v = false) (w : World) : Calls Tryz.prog 54 #[.int .u32 (v : Int)] w fun e w' => e = .returned (.tuple #[.agg #[.bool (Cob.off v), .bool (Cob.noR v), .int .i64 (Cob.id v : Int)], .int .i64 0]) ∧ Below w.heap.size w w' := by
  have h2 : v % 1073741824 < 2048 := by unfold Cob.bad at h; have := of_decide_eq_false h; omega
  have e1 : Int.tmod (v : Int) 1073741824 = ((v % 1073741824 : Nat) : Int) := by rw [Int.tmod_eq_emod_of_nonneg (by omega)]; omega
  have e2 : Int.tmod (v : Int) 2147483648 = ((v % 2147483648 : Nat) : Int) := by rw [Int.tmod_eq_emod_of_nonneg (by omega)]; omega
  have e3 : Int.tmod (v : Int) 2048 = (Cob.id v : Int) := by unfold Cob.id; rw [Int.tmod_eq_emod_of_nonneg (by omega)]; omega
  have f1 : decide ((2147483648 : Int) ≤ (v : Int)) = Cob.off v := by unfold Cob.off; rw [Bool.eq_iff_iff, decide_eq_true_iff, decide_eq_true_iff]; omega
  have f2 : decide ((1073741824 : Int) ≤ ((v % 2147483648 : Nat) : Int)) = Cob.noR v := by unfold Cob.noR; rw [Bool.eq_iff_iff, decide_eq_true_iff, decide_eq_true_iff]; omega
  have b0 := alloc_one w (.cells #[.bool false, .bool false, .int .i64 0] 93)
  have K := Blk.new w 93 #[.bool false, .bool false, .int .i64 0]
  have F := K.three
  have R := (Blk.new w 93 #[.bool (Cob.off v), .bool (Cob.noR v), .int .i64 (Cob.id v : Int)]).three
  generalize hr : v % 1073741824 = r at *
  generalize hq : v % 2147483648 = q at *
  generalize Cob.id v = i at *
  clear h hr hq
  by_cases c1 : (2147483648 : Int) ≤ (v : Int)
  all_goals by_cases c2 : (1073741824 : Int) ≤ (q : Int)
  all_goals
    first | rw [decide_eq_true c1] at f1 | rw [decide_eq_false c1] at f1
    first | rw [decide_eq_true c2] at f2 | rw [decide_eq_false c2] at f2
    rw [← f1, ← f2] at R ⊢
    clear f1 f2
    go_enter Tryz.func54, Tryz.ntmps54
    go_wp2_with fail
    exact bodyPost_ret (v := .tuple #[.agg #[.bool _, .bool _, .int .i64 (i : Int)], .int .i64 0]) (by simp [results, Tryz.results54, go_sem, R] <;> rfl) rfl ⟨rfl, alloc_one _ _⟩
set_option maxHeartbeats 2000000 in
theorem RRestricted_any (n : Int) (w : World) : Calls Tryz.prog 68 #[.int .i64 n] w fun e w' => e = .returned (.bool (Cob.restr n)) ∧ w = w' := by
  rcases (show (n < 128 ∨ 2047 < n ∨ (257 ≤ n ∧ n ≤ 384) ∨ (1409 ≤ n ∧ n ≤ 1535) ∨ (1537 ≤ n ∧ n ≤ 1663) ∨ (1760 ≤ n ∧ n ≤ 1791) ∨ 1792 < n) ∨ ((128 ≤ n ∧ n < 257) ∨ (384 < n ∧ n < 1409) ∨ (1535 < n ∧ n < 1537) ∨ (1663 < n ∧ n < 1760) ∨ (1791 < n ∧ n ≤ 1792)) by omega) with h | h
  · rw [show Cob.restr n = true from decide_eq_true h]
    by_cases h1 : n < 128
    · go_enter Tryz.func68, Tryz.ntmps68
      go_wp2_with fail
      go_ret
      exact ⟨rfl, rfl⟩
    · by_cases h2 : 2047 < n
      · go_enter Tryz.func68, Tryz.ntmps68
        go_wp2_with fail
        go_ret
        exact ⟨rfl, rfl⟩
      · rcases (show (257 ≤ n ∧ n ≤ 384) ∨ (1409 ≤ n ∧ n ≤ 1535) ∨ (1537 ≤ n ∧ n ≤ 1663) ∨ (1760 ≤ n ∧ n ≤ 1791) ∨ (1793 ≤ n ∧ n ≤ 2047) by omega) with ⟨h3, h4⟩ | ⟨h3, h4⟩ | ⟨h3, h4⟩ | ⟨h3, h4⟩ | ⟨h3, h4⟩
        all_goals
          clear h
          go_enter Tryz.func68, Tryz.ntmps68
          go_wp2_with fail
          go_ret
          exact ⟨rfl, rfl⟩
  · rw [show Cob.restr n = false from decide_eq_false (by omega)]
    rcases h with ⟨h3, h4⟩ | ⟨h3, h4⟩ | ⟨h3, h4⟩ | ⟨h3, h4⟩ | ⟨h3, h4⟩
    all_goals
      go_enter Tryz.func68, Tryz.ntmps68
      go_wp2_with fail
      go_ret
      exact ⟨rfl, rfl⟩
set_option maxRecDepth 100000 in
set_option maxHeartbeats 1000000 in
theorem RPlace_any (v : Nat) (hv : v < 4294967296) (w : World) : Calls Tryz.prog 42 #[.int .u32 (v : Int)] w fun e w' => e = .returned (.int .u32 (Cob.place v)) ∧ Below w.heap.size w w' := by
  unfold Cob.place
  cases hb : Cob.bad v
  · have SP := Lib.hid (fun w => RCSplit_ok v hv hb w)
    have RE := Lib.hid (fun w => RRestricted_any (Cob.id v : Int) w)
    clear hb
    simp only [Bool.false_eq_true, if_false]
    generalize Cob.restr (Cob.id v : Int) = rs at *
    generalize (Cob.id v : Int) = i at *
    generalize Cob.noR v = nr at *
    cases ho : Cob.off v
    · rw [ho] at SP
      clear ho
      cases rs
      all_goals
        simp only [Bool.false_eq_true, and_false, if_false, and_self, if_true, true_and]
        go_enter Tryz.func42, Tryz.ntmps42
        go_wp2_with fail
        refine (SP.out _).mono ?_
        rintro e w1 ⟨rfl, b1⟩
        have b2 := alloc_one w1 (.cells #[.bool false, .bool nr, .int .i64 i] 93)
        have K := (Blk.new w1 93 #[.bool false, .bool nr, .int .i64 i]).three
        go_wp2_with fail
        refine (RE.out _).mono ?_
        rintro e _ ⟨rfl, rfl⟩
        go_wp2_with fail
        go_ret
        exact ⟨rfl, below_step b1 b2 (Nat.le_refl _)⟩
    · rw [ho] at SP
      clear ho
      simp only [Bool.true_eq_false, false_and, if_false]
      go_enter Tryz.func42, Tryz.ntmps42
      go_wp2_with fail
      refine (SP.out _).mono ?_
      rintro e w1 ⟨rfl, b1⟩
      have b2 := alloc_one w1 (.cells #[.bool true, .bool nr, .int .i64 i] 93)
      have K := (Blk.new w1 93 #[.bool true, .bool nr, .int .i64 i]).three
      go_wp2_with fail
      go_ret
      exact ⟨rfl, below_step b1 b2 (Nat.le_refl _)⟩
  · have SP := Lib.hid (fun w => RCSplit_bad v hv hb w)
    clear hb
    simp only [if_true]
    go_enter Tryz.func42, Tryz.ntmps42
    go_wp2_with fail
    refine (SP.out _).mono ?_
    rintro e w1 ⟨rfl, b1⟩
    have b2 := alloc_one w1 (.cells #[.bool false, .bool false, .int .i64 0] 93)
    have K := (Blk.new w1 93 #[.bool false, .bool false, .int .i64 0]).three
    go_wp2_with fail
    go_ret
    exact ⟨rfl, below_step b1 b2 (Nat.le_refl _)⟩
end Go.Proofs.YtbmocffnnlfnjaaGreat
/-
  A region that draws its order where two operations can come up: both orders.
  Conditions: none.
-/
namespace Go.Proofs.YtbmocffnnlfnjaaGreat
set_option linter.unusedVariables false
set_option linter.unusedSimpArgs false
open Go.RowKit Go.Sort
section
variable {P : Program} {Q : Exit → Act → World → Prop} {md : Region.Mode} {S : World → Prop}
theorem phase_one_of {l : List Oper} (i : Nat) (fuel : Nat) {listed : Array Bool} {a : Act} {w : World} (hi : i < l.length)
    (h : wpList P l.toArray (Qn (fun a' w' => Behind P md l Q S fuel (listed.setIfInBounds i true) a' w') Q) [nth l i] a w) : wpOp P l.toArray Q i (fun a' w' => S w' ∧ wpAnyH P md l.toArray Q S fuel (listed.setIfInBounds i true) a' w') a w := by
  have ho : l.toArray[i]? = some (nth l i) := by rw [List.getElem?_toArray]; exact nth_some l i hi
  have fin : ∀ a' w', Behind P md l Q S fuel (listed.setIfInBounds i true) a' w' → S w' ∧ wpAnyH P md l.toArray Q S fuel (listed.setIfInBounds i true) a' w' := fun a' w' ⟨S', h1, h2, h3⟩ => ⟨h2 _ h1, held_mono h2 _ _ _ _ h3⟩
  refine wpOp_mono fin ?_
  unfold wpOp
  simp only [ho]
  simp only [wpList] at h
  by_cases hw : Region.wanted (nth l i) (yielded l.toArray a.tmps) = true
  · rw [if_pos hw] at h ⊢
    rcases h with h | ⟨h1, a0, w0, h2⟩
    · exact .inl h
    · exact .inr ⟨h1, a0, w0, h2⟩
  · rw [if_neg hw] at h ⊢
    exact h
theorem phase_two {l : List Oper} (i j : Nat) {n : Nat} (fuel : Nat) {listed : Array Bool} {a : Act} {w : World} (hn : n = fuel + 1) (hr : Region.ready md l.toArray listed = [i, j]) (hi : i < l.length) (hj : j < l.length)
    (h1 : wpList P l.toArray (Qn (fun a' w' => Behind P md l Q S fuel (listed.setIfInBounds i true) a' w') Q) [nth l i] a w)
    (h2 : wpList P l.toArray (Qn (fun a' w' => Behind P md l Q S fuel (listed.setIfInBounds j true) a' w') Q) [nth l j] a w) : wpAnyH P md l.toArray Q S n listed a w := by
  subst hn
  refine ⟨(fun h0 => by rw [hr] at h0; cases h0), fun k hk => ?_⟩
  rw [hr] at hk
  simp only [List.mem_cons, List.not_mem_nil, or_false] at hk
  rcases hk with rfl | rfl
  · exact phase_one_of _ _ hi h1
  · exact phase_one_of _ _ hj h2
end
end Go.Proofs.YtbmocffnnlfnjaaGreat
