/-
  Texts joined: DicTwo, RpdKnown, FrmPure, FrmMem, RpdOpen.
  Conditions: none.
-/
import Derived.Test.YtkddillihhjghaaJ01
import Derived.Test.YtkddillihhjghaaJ04
import Derived.Test.YtkddillihhjghaaJ11
import Derived.Test.YtkddillihhjghaaJ12
import Derived.Test.YtkddillihhjghaaJ14
import Derived.KernelRfl
import Derived.Test.YtkddillihhjghaaProg
/-
  A dictionary of the program and one of the reference, beside one another.
  Conditions: none.
-/
namespace Go.Proofs.Ytkddillihhjghaa.Dc
set_option linter.unusedVariables false
set_option linter.unusedSimpArgs false
/-- Values poked, one after the other. -/
def pokesS (D : Dic) (l : List Vl) : Dic := l.foldl (fun D v => pokeS D v.index v.sub v.data) D
theorem pokes_take (D : Dic) (l : List Vl) {k : Nat} (hk : k < l.length) : pokesS D (l.take (k + 1)) = pokeS (pokesS D (l.take k)) (l.getD k ⟨0, 0, []⟩).index (l.getD k ⟨0, 0, []⟩).sub (l.getD k ⟨0, 0, []⟩).data := by
  unfold pokesS
  rw [List.take_succ_eq_append_getElem hk, List.foldl_append, List.getD_eq_getElem?_getD, List.getElem?_eq_getElem hk]
  rfl
theorem poke_l (D : Dic) (x y : Int) (b : List UInt8) : (pokeS D x y b).l = D.l := by
  unfold pokeS
  split
  · rfl
  · split <;> rfl
theorem pokes_l : ∀ (l : List Vl) (D : Dic), (pokesS D l).l = D.l
  | [], _ => rfl
  | v :: l, D => by
    show (pokesS (pokeS D v.index v.sub v.data) l).l = D.l
    rw [pokes_l l, poke_l]
/-- What its values fulfil: as long as is let, and right. -/
structure Fine (D : Dic) : Prop where
  len : D.v.length = D.l.length
  sm : ∀ v ∈ D.v, v.length ≤ 2000
  ok : ∀ k, k < D.l.length → Ent.valS (D.l.getD k en0) (D.v.getD k []) = 0
theorem getD_set {α : Type} (L : List α) (i k : Nat) (b d : α) : (L.set i b).getD k d = if i = k ∧ k < L.length then b else L.getD k d := by
  rw [List.getD_eq_getElem?_getD, List.getElem?_set, List.getD_eq_getElem?_getD]
  by_cases h : i = k
  · subst h
    by_cases h2 : i < L.length
    · simp [h2]
    · rw [if_pos rfl, if_neg h2, if_neg (by omega), List.getElem?_eq_none (by omega)]
  · simp [h]
theorem Fine.poke {D : Dic} (h : Fine D) (x y : Int) {b : List UInt8} (hb : b.length ≤ 2000) : Fine (pokeS D x y b) := by
  unfold pokeS
  cases hf : findS D.l x y with
  | none => exact h
  | some k =>
    dsimp only
    split
    · rename_i hv
      refine ⟨by rw [List.length_set]; exact h.len, fun v hv' => ?_, fun i hi => ?_⟩
      · rcases List.mem_or_eq_of_mem_set hv' with h1 | h1
        · exact h.sm v h1
        · subst h1; exact hb
      · dsimp only at hi ⊢
        rw [getD_set]
        split
        · rename_i h2
          rw [← h2.1]
          exact hv
        · exact h.ok i hi
    · exact h
theorem Fine.pokes {vs : List Vl} (hb : ∀ v ∈ vs, v.data.length ≤ 2000) : ∀ {D : Dic}, Fine D → Fine (pokesS D vs) := by
  induction vs with
  | nil => exact fun h => h
  | cons v l ih => exact fun h => ih (fun x hx => hb x (List.mem_cons_of_mem _ hx)) (h.poke _ _ (hb v (List.mem_cons_self ..)))
/-- A new dictionary's values. -/
theorem Fine.new {es : List Ent.En} (h : (newS es).1 = 0) (hs : ∀ e ∈ es, e.dflt.length ≤ 2000) : Fine ⟨es, es.map (·.dflt)⟩ := by
  obtain ⟨_, _, h3⟩ := new_ok h
  refine ⟨by simp, fun v hv => ?_, fun k hk => ?_⟩
  · obtain ⟨e, he, rfl⟩ := List.mem_map.1 hv
    exact hs e he
  · dsimp only at hk ⊢
    have e1 : (es.map (·.dflt)).getD k [] = (es.getD k en0).dflt := by
      simp [List.getD, List.getElem?_map, List.getElem?_eq_getElem hk]
    rw [e1]
    have hm : es.getD k en0 ∈ es := by
      rw [List.getD_eq_getElem?_getD, List.getElem?_eq_getElem hk]
      exact List.getElem_mem hk
    exact (Ent.right_iff (h3 _ hm)).2.2.2.2.2.2.2.2
end Go.Proofs.Ytkddillihhjghaa.Dc
namespace Go.Proofs.Ytkddillihhjghaa
set_option linter.unusedVariables false
set_option linter.unusedSimpArgs false
open Go.RowKit
section
variable {t : TypeId} {F : Nat → Prop} {w w' : World} {g gv lc vc : Nat} {lA vA : Option Addr} {xs vs : List Value} {D : Dc.Dic}
/-- Its values' row, where it is, or a place that is not there. -/
theorem DRt.fix (h : DRt t w F g gv lA lc vA vc xs vs D) : ∃ gv2, DRt t w F g gv2 lA lc vA vc xs vs D ∧ (F gv2 ∨ gv2 = w.heap.size) := by
  cases hk : (Value.slice vA D.l.length vc).ownBlock with
  | some k =>
    have := h.at_ k hk
    exact ⟨gv, h, .inl this.2⟩
  | none =>
    have h0 : D.l.length = 0 := by
      rcases Nat.eq_zero_or_pos D.l.length with h0 | h0
      · exact h0
      · obtain ⟨q, e, _, _⟩ := h.own.head h0
        subst e
        simp [Value.ownBlock] at hk
    have hl : D.l = [] := List.eq_nil_of_length_eq_zero h0
    have hv : D.v = [] := List.eq_nil_of_length_eq_zero (by rw [h.len, h0])
    refine ⟨w.heap.size, { fg := h.fg, ne := (by have := h.blk.lt; omega), blk := h.blk, row := ⟨h.row.len, h.row.le, h.row.cap, h.row.nil, fun h1 => absurd h1 (by omega)⟩, rows := ⟨h.rows.1, fun i f hf => by rw [hl] at hf; simp at hf⟩, own := h.own, at_ := (fun k hk2 => by rw [hk] at hk2; cases hk2), vals := ⟨h.vals.1, fun i f hf => by rw [hv] at hf; simp at hf⟩, len := h.len, ord := h.ord, few := h.few, right := h.right }, .inr rfl⟩
/-- Blocks that are there. -/
theorem DRt.cut (h : DRt t w F g gv lA lc vA vc xs vs D) : DRt t w (fun q => F q ∧ q < w.heap.size) g gv lA lc vA vc xs vs D := h.mono fun _ hb hf => ⟨hf, hb⟩
end
/-- A dictionary, its blocks from 'base' on. -/
def One (t : TypeId) (w : World) (base g : Nat) (F : Nat → Prop) (D : Dc.Dic) : Prop := ∃ (gv lc vc : Nat) (la : Addr) (vA : Option Addr) (xs vs : List Value), DRt t w F g gv (some la) lc vA vc xs vs D ∧ ∀ q, F q → base ≤ q ∧ q < w.heap.size
def OneR (t : TypeId) (w : World) (base g : Nat) (F : Nat → Prop) (D : Dc.Dic) : Prop := ∃ (gv lc vc : Nat) (lA vA : Option Addr) (xs vs : List Value), DRt t w F g gv lA lc vA vc xs vs D ∧ ∀ q, F q → base ≤ q ∧ q < w.heap.size
section
variable {t : TypeId} {F G : Nat → Prop} {w w' : World} {base g : Nat} {D : Dc.Dic}
theorem One.r (h : One t w base g F D) : OneR t w base g F D := by
  obtain ⟨gv, lc, vc, la, vA, xs, vs, h1, h2⟩ := h
  exact ⟨gv, lc, vc, some la, vA, xs, vs, h1, h2⟩
theorem One.mv (h : One t w base g F D) (hm : Mv G w w') (hd : ∀ b, b < w.heap.size → F b → ¬ G b) : One t w' base g F D := by
  obtain ⟨gv, lc, vc, la, vA, xs, vs, h1, h2⟩ := h
  exact ⟨gv, lc, vc, la, vA, xs, vs, h1.mv hm hd, fun q hq => by have := h2 q hq; have := hm.size; omega⟩
theorem OneR.mv (h : OneR t w base g F D) (hm : Mv G w w') (hd : ∀ b, b < w.heap.size → F b → ¬ G b) : OneR t w' base g F D := by
  obtain ⟨gv, lc, vc, la, vA, xs, vs, h1, h2⟩ := h
  exact ⟨gv, lc, vc, la, vA, xs, vs, h1.mv hm hd, fun q hq => by have := h2 q hq; have := hm.size; omega⟩
theorem One.below (h : One t w base g F D) (hb : Below w.heap.size w w') : One t w' base g F D := h.mv (Mv.of_new hb fun _ => False) fun _ _ _ h => h
theorem OneR.below (h : OneR t w base g F D) (hb : Below w.heap.size w w') : OneR t w' base g F D := h.mv (Mv.of_new hb fun _ => False) fun _ _ _ h => h
theorem One.lt (h : One t w base g F D) : ∀ q, F q → base ≤ q ∧ q < w.heap.size := by
  obtain ⟨gv, lc, vc, la, vA, xs, vs, h1, h2⟩ := h; exact h2
theorem OneR.lt (h : OneR t w base g F D) : ∀ q, F q → base ≤ q ∧ q < w.heap.size := by
  obtain ⟨gv, lc, vc, la, vA, xs, vs, h1, h2⟩ := h; exact h2
end
section
variable {F F' : Nat → Prop} {w : World} {base g n c B : Nat} {A : Option Addr} {b : List UInt8} {D : Dc.Dic}
end
end Go.Proofs.Ytkddillihhjghaa
/-
  Walk: 'known' of the statements of layer 31.
  Conditions: none.
-/
namespace Go.Proofs.Ytkddillihhjghaa
set_option linter.unusedVariables false
set_option linter.unusedSimpArgs false
open Go.RowKit
def ka31 : Ent.En := ⟨24576, 1, [97], 5, 4, true, false, 0, 0, 9, [5]⟩
theorem k31new : Dc.newS [ka31] = (0, 0) := by kernel_rfl
theorem k31chk : Rp.checkS [ka31] 517 255 [1610613000] = 0 := by kernel_rfl
theorem k31chk2 : Rp.checkS [ka31] 517 241 [] = 101253168 := by kernel_rfl
theorem k31r1 : Rp.recvS [ka31] 517 255 [1610613000] [] 517 false [7] = ([⟨24576, 1, [7]⟩], 0, []) := by kernel_rfl
theorem k31r2 : Rp.recvS [ka31] 517 255 [1610613000] [] 517 false [] = ([], 33296, []) := by kernel_rfl
theorem k31r3 : Rp.recvS [ka31] 517 255 [1610613000] [] 517 false [10] = ([], 25344, []) := by kernel_rfl
theorem k31id : (Cob.pdo 517 : Int) = 517 := by kernel_rfl
theorem k31entries (w : World) : REn ((w.alloc (.cells #[.int .u8 5] 5)).alloc
    (.cells #[.int .i64 24576, .int .i64 1, .string (T [97]), .int .i64 5, .int .i64 4, .bool true, .bool false, .int .i64 0, .int .i64 0, .int .i64 9, .slice (some ⟨w.heap.size, 0, none⟩) 1 1] 62))
    (w.heap.size + 1 + 1) (w.heap.size + 1) (some ⟨w.heap.size + 1, 0, none⟩) 1 1 [ka31] := by
  have r1 := (RB.lit w [.int .u8 5] [5] rfl (n := 1) rfl (by omega)).alloc (by simp) (.cells #[.int .i64 24576, .int .i64 1, .string (T [97]), .int .i64 5, .int .i64 4, .bool true, .bool false, .int .i64 0, .int .i64 0, .int .i64 9, .slice (some ⟨w.heap.size, 0, none⟩) 1 1] 62)
  have rl := RV.lit (w.alloc (.cells #[.int .u8 5] 5)) 62 1 (size := 11) (cs := [.int .i64 24576, .int .i64 1, .string (T [97]), .int .i64 5, .int .i64 4, .bool true, .bool false, .int .i64 0, .int .i64 0, .int .i64 9, .slice (some ⟨w.heap.size, 0, none⟩) 1 1]) rfl (by omega)
  simp only [World.size_alloc] at r1 rl
  refine ⟨_, rl, ?_⟩
  have h1 : EnC ((w.alloc (.cells #[.int .u8 5] 5)).alloc
    (.cells #[.int .i64 24576, .int .i64 1, .string (T [97]), .int .i64 5, .int .i64 4, .bool true, .bool false, .int .i64 0, .int .i64 0, .int .i64 9, .slice (some ⟨w.heap.size, 0, none⟩) 1 1] 62)) (w.heap.size + 1) ka31 (enL ka31 (some ⟨w.heap.size, 0, none⟩) 1 1) := ⟨_, _, _, rfl, r1⟩
  exact Rows.one h1 rfl
theorem k31dflt : ∀ e ∈ [ka31], e.dflt.length ≤ 1000000 := by intro e he; simp only [List.mem_cons, List.not_mem_nil, or_false] at he; subst he; decide
theorem k31words : ∀ x ∈ [1610613000], x < 4294967296 := by intro x hx; simp at hx; omega
set_option maxRecDepth 100000 in
set_option maxHeartbeats 8000000 in
theorem known31_any (w : World) : Calls Try.prog 6 #[] w fun e w' => e = .returned (.bool true) ∧ Below w.heap.size w w' := by
  have F := k31entries w
  have b0 : Below w.heap.size w ((w.alloc (.cells #[.int .u8 5] 5)).alloc
    (.cells #[.int .i64 24576, .int .i64 1, .string (T [97]), .int .i64 5, .int .i64 4, .bool true, .bool false, .int .i64 0, .int .i64 0, .int .i64 9, .slice (some ⟨w.heap.size, 0, none⟩) 1 1] 62)) := alloc_two _ _ _
  have NW := dNew_any _ F (by simp) (by omega) (by intro e he; simp only [List.mem_cons, List.not_mem_nil, or_false] at he; subst he; decide)
  unfold NewPost at NW
  rw [k31new] at NW
  replace NW := Lib.hid NW
  go_enter Try.func6, Try.ntmps6
  go_wp2_with fail
  refine (NW.out).mono ?_
  rintro e w1 (⟨_, b1, g, gv, lc, vc, la, vA, xs, vs, rfl, hd⟩ | ⟨h0, _⟩)
  case inr => exact absurd rfl h0
  have d1 := below_step b0 b1 (Nat.le_refl _)
  replace hd := hd.cut
  clear NW F b0 b1
  go_wp2_with fail
  have bW := alloc_one w1 (.cells #[.int .u32 1610613000] 23)
  have RN := RpNew_any 517 (by omega) 255 (hd.below bW) k31dflt (RW.lit w1 [1610613000] [.int .u32 1610613000] 1 rfl rfl (by omega)) k31words (by simp)
  unfold RNewP at RN
  rw [k31chk] at RN
  replace RN := Lib.hid RN
  refine (RN.out).mono ?_
  rintro e w2 (⟨_, b2, p, gp, Aw, cw, rfl, hp⟩ | ⟨h0, _⟩)
  case inr => exact absurd rfl h0
  have b12 := below_step bW b2 (Nat.le_refl _)
  have d2 := below_step d1 b12 (Nat.le_refl _)
  replace hd := hd.below b12
  clear RN bW b2 b12
  have RN := RpNew_any (A := none) (n := 0) (c := 0) (ws := []) (B := 0) 517 (by omega) 241 hd k31dflt RV.none_ (by simp) (Nat.zero_le _)
  unfold RNewP at RN
  rw [k31chk2] at RN
  replace RN := Lib.hid RN
  go_wp2_with fail
  refine (RN.out).mono ?_
  rintro e w3 (⟨h0, _⟩ | ⟨_, b3, rfl⟩)
  case inl => exact absurd h0 (by decide)
  have d3 := below_step d2 b3 (Nat.le_refl _)
  replace hd := hd.below b3
  replace hp := hp.below b3
  clear RN b3
  go_wp2_with fail
  have bA := alloc_one w3 (.cells #[.int .u8 7] 5)
  have RA := Recv_on (hp.below bA) (hd.below bA) k31dflt k31words (RB.lit w3 [.int .u8 7] [7] rfl (n := 1) rfl (by omega)) (by simp) (by omega) (by decide) (by decide)
  simp only [k31id] at RA
  rw [k31r1] at RA
  unfold RecvP at RA
  replace RA := Lib.hid RA
  refine (RA.out).mono ?_
  rintro e w4 ⟨A3, c3, rfl, o3, M3, Av3, cv3, hp3⟩
  try dsimp only at o3 hp3
  have hpg := hp.gb
  have hlt : w1.heap.size < p := by simp only [World.size_alloc] at hpg; omega
  have hnd : ∀ q, q < w1.heap.size → ¬ q = p := fun q h e => by omega
  have hsz1 : w1.heap.size ≤ w3.heap.size := by have := hp.blk.lt; omega
  have d4 : Below w.heap.size w w4 := (d3.trans (bA.mono d3.size)).trans (M3.below (Nat.le_trans d3.size bA.size) fun q e => by subst e; have := d1.size; omega)
  have hd4 := (hd.below bA).mv M3 fun q _ hf => hnd q hf.2
  have b5 := alloc_one w4 (.cells #[.slice A3 1 c3, .int .i64 0] 47)
  have KA := Blk.new w4 47 #[.slice A3 1 c3, .int .i64 0]
  have hd5 := hd4.below b5
  have hp5 := hp3.below b5
  have o5 := o3.below b5 (R' := VlW _ _) fun _ _ h => h.below b5
  have d5 := below_step d4 b5 (Nat.le_refl _)
  have RB_ := Recv_on (A := none) (n := 0) (c := 0) (B := 0) (b := []) hp5 hd5 k31dflt k31words RB.none_ (Nat.zero_le _) (by omega) (by decide) (by decide)
  simp only [k31id] at RB_
  rw [k31r2] at RB_
  unfold RecvP at RB_
  replace RB_ := Lib.hid RB_
  have hpl : p < w4.heap.size := hp3.blk.lt
  clear RA
  go_wp2_with fail
  refine (RB_.out).mono ?_
  rintro e w6 ⟨A5, c5, rfl, o6, M6, Av6, cv6, hp6⟩
  try dsimp only at o6 hp6
  have hz6 := M6.size
  have d6 : Below w.heap.size w w6 := d5.trans (M6.below d5.size fun q e => by subst e; have := d1.size; omega)
  have hd6 := hd5.mv M6 fun q _ hf => hnd q hf.2
  have KA6 := KA.mv M6 (by omega)
  have o56 := o5.mvg hp5.blk (by decide) (by decide) M6
  have b7 := alloc_two w6 (.cells #[.slice A5 0 c5, .int .i64 33296] 47) (.cells #[.int .u8 10] 5)
  have KB := (Blk.new w6 47 #[.slice A5 0 c5, .int .i64 33296]).alloc (.cells #[.int .u8 10] 5)
  have rb7 := RB.lit (w6.alloc (.cells #[.slice A5 0 c5, .int .i64 33296] 47)) [.int .u8 10] [10] rfl (n := 1) rfl (by omega)
  simp only [World.size_alloc] at rb7
  have RC := Recv_on (hp6.below b7) (hd6.below b7) k31dflt k31words rb7 (by simp) (by omega) (by decide) (by decide)
  simp only [k31id] at RC
  rw [k31r3] at RC
  unfold RecvP at RC
  replace RC := Lib.hid RC
  have d7 := below_step d6 b7 (Nat.le_refl _)
  have KA7 := KA6.later b7
  have o57 := o56.below b7 (R' := VlW _ _) fun _ _ h => h.below b7
  have hp7 := hp6.below b7
  have hpl6 : p < w6.heap.size := hp6.blk.lt
  clear RB_ KA6 o56 hd6
  go_wp2_with fail
  refine (RC.out).mono ?_
  rintro e w8 ⟨A8, c8, rfl, o8, M8, Av8, cv8, hp8⟩
  try dsimp only at o8 hp8
  have hz8 := M8.size
  simp only [World.size_alloc] at hz8
  have d8 : Below w.heap.size w w8 := d7.trans (M8.below d7.size fun q e => by subst e; have := d1.size; omega)
  have KA8 := KA7.mv M8 (by omega)
  have KB8 := KB.mv M8 (by omega)
  have o58 := o57.mvg hp7.blk (by decide) (by decide) M8
  have b9 := alloc_one w8 (.cells #[.slice A8 0 c8, .int .i64 25344] 47)
  have KC := (Blk.new w8 47 #[.slice A8 0 c8, .int .i64 25344]).two
  have KA9 := (KA8.later b9).two
  have KB9 := (KB8.later b9).two
  have o59 := o58.below b9 (R' := VlW _ _) fun _ _ h => h.below b9
  have hp9 := hp8.below b9
  have d9 := below_step d8 b9 (Nat.le_refl _)
  obtain ⟨q, oo, cs, rfl, hq, ⟨A2, n2, c2, rfl, ow⟩, hc⟩ := RS.at_ o59.rs (i := 0) (by decide) (f := ⟨24576, 1, [7]⟩) rfl
  have q2 := hc 2 _ (by decide) rfl
  have hcv : 1 ≤ c3 ∧ c3 ≤ 9223372036854775807 := by obtain ⟨zs, z1, _⟩ := o59; exact ⟨z1.rv.le, z1.rv.cap⟩
  obtain ⟨hcv1, hcv2⟩ := hcv
  simp only [Nat.zero_mul, Nat.add_zero] at q2
  have e2 := convb ow.rb
  have ID := RpId_any hp9.blk
  rw [k31id] at ID
  replace ID := Lib.hid ID
  clear RC KA KA7 KA8 KB KB8 o5 o57 o58 o59 hp5 hp6 hp7 hp8 hp9 hp3 hp hd hd4 hd5 hc o3 o6 o8 M3 M6 M8
  go_wp2_with fail
  refine (ID.out).mono ?_
  rintro e _ ⟨rfl, rfl⟩
  go_wp2_with fail
  go_ret
  exact ⟨rfl, d9⟩
end Go.Proofs.Ytkddillihhjghaa
/-
  Layer 10 as plain functions: frames, their texts, their order.
  Conditions: none.
-/
namespace Go.Proofs.Ytkddillihhjghaa.Can
set_option linter.unusedVariables false
set_option linter.unusedSimpArgs false
open Oct
structure Fr where
  id : Int
  rem : Bool
  data : List UInt8
def zero : Fr := ⟨0, false, []⟩
def checkN (id : Int) (r : Bool) (n : Nat) : Int := if id < 0 ∨ 2047 < id then 9 else if 8 < n then 3 else if r = true ∧ 0 < n then 4 else 0
def check (f : Fr) : Int := checkN f.id f.rem f.data.length
def beforeN (i : Int) (r : Bool) (i' : Int) (r' : Bool) : Bool := decide (i < i') || (decide (i = i') && !r && r')
def before (a b : Fr) : Bool := beforeN a.id a.rem b.id b.rem
def sameB (a b : Fr) : Bool := decide (a.id = b.id) && (a.rem == b.rem) && (a.data == b.data)
theorem checkN_lt {i : Int} {r : Bool} {n : Nat} (h : checkN i r n = 0) : 0 ≤ i ∧ i ≤ 2047 ∧ n ≤ 8 ∧ (r = true → n = 0) := by
  unfold checkN at h
  split at h
  · cases h
  · split at h
    · cases h
    · split at h
      · cases h
      · rename_i h1 h2 h3
        refine ⟨by omega, by omega, by omega, fun hr => ?_⟩
        rcases Nat.eq_zero_or_pos n with h0 | h0
        · exact h0
        · exact absurd ⟨hr, h0⟩ h3
theorem checkN_zero {i : Int} {r : Bool} {n : Nat} (h1 : 0 ≤ i) (h2 : i ≤ 2047) (h3 : n ≤ 8) (h4 : r = true → n = 0) : checkN i r n = 0 := by
  unfold checkN
  rw [if_neg (by omega), if_neg (by omega), if_neg (fun h => by have := h4 h.1; omega)]
theorem checkN_range (i : Int) (r : Bool) (n : Nat) : checkN i r n = 0 ∨ checkN i r n = 3 ∨ checkN i r n = 4 ∨ checkN i r n = 9 := by
  unfold checkN
  split
  · simp
  · split
    · simp
    · split <;> simp
theorem sameB_iff (a b : Fr) : sameB a b = true ↔ a = b := by
  obtain ⟨i, r, l⟩ := a
  obtain ⟨i', r', l'⟩ := b
  unfold sameB
  simp [and_assoc]
theorem sameB_refl (a : Fr) : sameB a a = true := (sameB_iff a a).2 rfl

/-- An Id's three digits. -/
def idS (i : Int) : List UInt8 := [dig ((i / 256).toNat % 16), dig ((i % 256).toNat / 16), dig ((i % 256).toNat % 16)]
def showS (f : Fr) : List UInt8 × Int := if check f = 0 then (idS f.id ++ [35] ++ (if f.rem = true then [82] else hexS f.data), 0) else ([], check f)
/-- The Id with which a text begins. -/
def id3 (s : List UInt8) : Option Nat :=
  match nib (s.getD 0 0), nib (s.getD 1 0), nib (s.getD 2 0) with
  | some x, some y, some z => some (256 * x + 16 * y + z)
  | _, _, _ => none
def nv (c : UInt8) : Nat := (nib c).getD 0
def idv (s : List UInt8) : Nat → Nat
  | 0 => 0
  | k + 1 => 16 * idv s k + nv (s.getD k 0)
theorem nv_lt (c : UInt8) : nv c < 16 := by
  unfold nv
  cases h : nib c with
  | none => decide
  | some k => exact nib_lt h
theorem idv_lt (s : List UInt8) : ∀ k, idv s k < 16 ^ k
  | 0 => by simp [idv]
  | k + 1 => by
    have h1 := idv_lt s k
    have h2 := nv_lt (s.getD k 0)
    rw [idv, Nat.pow_succ]
    omega
def idOk (s : List UInt8) : Prop := 4 ≤ s.length ∧ s.getD 3 0 = 35 ∧ ∀ j, j < 3 → nib (s.getD j 0) ≠ none
theorem id3_ok {s : List UInt8} (h : ∀ j, j < 3 → nib (s.getD j 0) ≠ none) : id3 s = some (idv s 3) := by
  have h0 := h 0 (by omega); have h1 := h 1 (by omega); have h2 := h 2 (by omega)
  unfold id3
  cases e0 : nib (s.getD 0 0) with
  | none => exact absurd e0 h0
  | some x => cases e1 : nib (s.getD 1 0) with
    | none => exact absurd e1 h1
    | some y => cases e2 : nib (s.getD 2 0) with
      | none => exact absurd e2 h2
      | some z =>
        simp only [idv, nv, e0, e1, e2, Option.getD_some]
        congr 1
        omega
theorem id3_bad {s : List UInt8} {j : Nat} (hj : j < 3) (h : nib (s.getD j 0) = none) : id3 s = none := by
  unfold id3
  rcases (show j = 0 ∨ j = 1 ∨ j = 2 by omega) with rfl | rfl | rfl <;> rw [h]
  · cases nib (s.getD 0 0) <;> rfl
  · cases nib (s.getD 0 0) <;> cases nib (s.getD 1 0) <;> rfl
def chk (f : Fr) : Fr × Int := if check f = 0 then (f, 0) else (zero, check f)
def parseS (s : List UInt8) : Fr × Int :=
  if 4 ≤ s.length ∧ s.getD 3 0 = 35 then
    match id3 s with
    | none => (zero, 4)
    | some n => if s.drop 4 = [82] then chk ⟨n, true, []⟩ else
      match pairs (s.drop 4) with
      | none => (zero, 4)
      | some d => chk ⟨n, false, d⟩
  else (zero, 4)
theorem parseS_bad {s : List UInt8} (h : ¬ idOk s) : parseS s = (zero, 4) := by
  unfold parseS
  split
  · rename_i h1
    have : ∃ j, j < 3 ∧ nib (s.getD j 0) = none := by
      apply Classical.byContradiction
      intro hc
      exact h ⟨h1.1, h1.2, fun j hj e => hc ⟨j, hj, e⟩⟩
    obtain ⟨j, hj, e⟩ := this
    rw [id3_bad hj e]
  · rfl
theorem parseS_ok {s : List UInt8} (h : idOk s) : parseS s = if s.drop 4 = [82] then chk ⟨(idv s 3 : Nat), true, []⟩ else
      match pairs (s.drop 4) with
      | none => (zero, 4)
      | some d => chk ⟨(idv s 3 : Nat), false, d⟩ := by
  unfold parseS
  rw [if_pos ⟨h.1, h.2.1⟩, id3_ok h.2.2]
theorem take3 {s : List UInt8} (h : 4 ≤ s.length) : s.take 3 = [s.getD 0 0, s.getD 1 0, s.getD 2 0] := by
  match s, h with
  | a :: b :: c :: d :: r, _ => rfl
theorem pairs_id {s : List UInt8} (h : 4 ≤ s.length) (hn : ∀ j, j < 3 → nib (s.getD j 0) ≠ none) :
    ∃ x y : UInt8, pairs (48 :: s.take 3) = some [x, y] ∧ 256 * x.toNat + y.toNat = idv s 3 := by
  rw [take3 h]
  have h0 := hn 0 (by omega); have h1 := hn 1 (by omega); have h2 := hn 2 (by omega)
  cases e0 : nib (s.getD 0 0) with
  | none => exact absurd e0 h0
  | some x => cases e1 : nib (s.getD 1 0) with
    | none => exact absurd e1 h1
    | some y => cases e2 : nib (s.getD 2 0) with
      | none => exact absurd e2 h2
      | some z =>
        have a := nib_lt e0; have b := nib_lt e1; have c := nib_lt e2
        have e48 : nib 48 = some 0 := by decide
        refine ⟨UInt8.ofNat (16 * 0 + x), UInt8.ofNat (16 * y + z), ?_, ?_⟩
        · simp only [pairs, e48, e0, e1, e2]
        · simp only [idv, nv, e0, e1, e2, Option.getD_some, UInt8.toNat_ofNat']
          omega
theorem pairs_id_bad {s : List UInt8} (h : 4 ≤ s.length) {j : Nat} (hj : j < 3) (hb : nib (s.getD j 0) = none) : pairs (48 :: s.take 3) = none := by
  rw [take3 h]
  have e48 : nib 48 = some 0 := by decide
  rcases (show j = 0 ∨ j = 1 ∨ j = 2 by omega) with rfl | rfl | rfl
  · simp only [pairs, e48, hb]
  · simp only [pairs, hb]
    cases nib (s.getD 0 0) <;> rfl
  · simp only [pairs, hb]
    cases nib (s.getD 0 0) <;> cases nib (s.getD 1 0) <;> rfl
/-- The first line, and the rest behind it. -/
def lineS : List UInt8 → Option (List UInt8 × List UInt8)
  | [] => none
  | c :: s => if c = 10 then some ([], s) else match lineS s with
    | none => none
    | some (a, b) => some (c :: a, b)
theorem lineS_len : ∀ {s a b : List UInt8}, lineS s = some (a, b) → s = a ++ 10 :: b
  | [], _, _, h => by simp [lineS] at h
  | c :: s, a, b, h => by
    unfold lineS at h
    split at h
    · rename_i hc
      injection h with h
      injection h with h1 h2
      subst h1 h2 hc
      rfl
    · split at h
      · cases h
      · rename_i a' b' he
        injection h with h
        injection h with h1 h2
        subst h1 h2
        rw [lineS_len he]
        rfl
/-- The frames of a text: the frames so far in l. -/
def linesF : Nat → List UInt8 → List Fr → List Fr × Int × Nat
  | 0, _, l => (l, 0, 0)
  | k + 1, s, l => if s = [] then (l, 0, 0) else match lineS s with
    | none => ([], 4, l.length)
    | some (a, b) => if (parseS a).2 = 0 then linesF k b (l ++ [(parseS a).1]) else ([], (parseS a).2, l.length)
def linesS (s : List UInt8) : List Fr × Int × Nat := linesF (s.length + 1) s []
def textF : List Fr → List UInt8 → List UInt8 × Int
  | [], t => (t, 0)
  | f :: l, t => if (showS f).2 = 0 then textF l (t ++ ((showS f).1 ++ [10])) else ([], (showS f).2)
def textS (l : List Fr) : List UInt8 × Int := textF l []
def allB : List Fr → List Fr → Bool
  | [], [] => true
  | a :: l, b :: m => sameB a b && allB l m
  | _, _ => false
end Go.Proofs.Ytkddillihhjghaa.Can
/-
  Frames in memory: an argument that is a frame, a slice of frames.
  Conditions: none.
-/
namespace Go.Proofs.Ytkddillihhjghaa
set_option linter.unusedVariables false
set_option linter.unusedSimpArgs false
open Go.ChangeShapes Go.WideShapes Go.ChangeAt Go.RowKit
theorem alloc_three (w : World) (o o' o'' : Obj) : Below w.heap.size w (((w.alloc o).alloc o').alloc o'') := ((((Below.refl _ w).alloc (Nat.le_refl _) o).alloc (by simp) o').alloc (by simp; omega) o'')
/-- The cells of a frame. -/
def FrC (w : World) (B : Nat) (f : Can.Fr) (cs : List Value) : Prop := ∃ A n c, cs = [.int .i64 f.id, .bool f.rem, .slice A n c] ∧ RB w B A n c f.data
theorem FrC.keep {w w' : World} {B : Nat} {f : Can.Fr} {cs : List Value} (h : FrC w B f cs) (hk : ∀ p : Addr, p.block < B → w'.cell? p = w.cell? p) : FrC w' B f cs := by
  obtain ⟨A, n, c, h1, h2⟩ := h
  exact ⟨A, n, c, h1, h2.keep hk⟩
theorem FrC.below {w w' : World} {B : Nat} {f : Can.Fr} {cs : List Value} (h : FrC w B f cs) (hb : Below B w w') : FrC w' B f cs := h.keep fun _ hp => hb.cell hp
theorem FrC.more {w : World} {B B' : Nat} {f : Can.Fr} {cs : List Value} (h : FrC w B f cs) (hB : B ≤ B') : FrC w B' f cs := by
  obtain ⟨A, n, c, h1, h2⟩ := h
  exact ⟨A, n, c, h1, h2.more hB⟩
theorem FrC.len {w : World} {B : Nat} {f : Can.Fr} {cs : List Value} (h : FrC w B f cs) : cs.length = 3 := by
  obtain ⟨A, n, c, rfl, _⟩ := h
  rfl
/-- A slice of frames. -/
def RF (w : World) (B : Nat) (A : Option Addr) (n c : Nat) (fs : List Can.Fr) : Prop := ∃ xs, RV w B 3 A n c xs ∧ Rows (FrC w B) 3 fs xs
section
variable {w w' : World} {B B' n c : Nat} {A : Option Addr} {fs : List Can.Fr}
theorem RF.len (h : RF w B A n c fs) : fs.length = n := by
  obtain ⟨xs, h1, h2⟩ := h
  have := h1.len
  have := h2.len
  omega
theorem RF.lt (h : RF w B A n c fs) : n ≤ 9223372036854775807 := by
  obtain ⟨xs, h1, h2⟩ := h
  exact Nat.le_trans h1.le h1.cap
theorem RF.below (h : RF w B A n c fs) (hb : Below B w w') : RF w' B A n c fs := by
  obtain ⟨xs, h1, h2⟩ := h
  exact ⟨xs, h1.below hb, h2.imp fun _ _ hr => hr.below hb⟩
theorem RF.keep (h : RF w B A n c fs) (hk : ∀ p : Addr, p.block < B → w'.cell? p = w.cell? p) : RF w' B A n c fs := by
  obtain ⟨xs, h1, h2⟩ := h
  exact ⟨xs, h1.keep hk, h2.imp fun _ _ hr => hr.keep hk⟩
theorem RF.more (h : RF w B A n c fs) (hB : B ≤ B') : RF w B' A n c fs := by
  obtain ⟨xs, h1, h2⟩ := h
  exact ⟨xs, h1.more hB, h2.imp fun _ _ hr => hr.more hB⟩
theorem RF.drew (h : RF w B A n c fs) : RF w.drew B A n c fs := h.keep fun _ _ => rfl
theorem RF.at_ (h : RF w B A n c fs) {i : Nat} (hi : i < n) : ∃ b o A' n' c', A = some ⟨b, o, none⟩ ∧ b < B ∧ w.cell? ⟨b, o + i * 3, none⟩ = some (.int .i64 (fs.getD i Can.zero).id) ∧
    w.cell? ⟨b, o + i * 3 + 1, none⟩ = some (.bool (fs.getD i Can.zero).rem) ∧ w.cell? ⟨b, o + i * 3 + 2, none⟩ = some (.slice A' n' c') ∧ RB w B A' n' c' (fs.getD i Can.zero).data := by
  have hl := h.len
  obtain ⟨xs, h1, h2⟩ := h
  obtain ⟨b, o, rfl, hb, hc⟩ := h1.at_ (by omega)
  have hf : fs[i]? = some (fs.getD i Can.zero) := by simp [List.getD, List.getElem?_eq_getElem (show i < fs.length by omega)]
  obtain ⟨A', n', c', e, hr⟩ := h2.2 i _ hf
  have e0 : ∀ j, ((xs.drop (i * 3)).take 3)[j]? = if j < 3 then xs[i * 3 + j]? else none := fun j => by rw [List.getElem?_take, List.getElem?_drop]
  rw [e] at e0
  refine ⟨b, o, A', n', c', rfl, hb, ?_, ?_, ?_, hr⟩
  · have := hc (i * 3) _ (by have := e0 0; simpa using this.symm)
    exact this
  · have := hc (i * 3 + 1) _ (by have := e0 1; simpa using this.symm)
    rw [← Nat.add_assoc] at this
    exact this
  · have := hc (i * 3 + 2) _ (by have := e0 2; simpa using this.symm)
    rw [← Nat.add_assoc] at this
    exact this
end
section
variable {H : Type} {enc : TypeId × Value → H} {w : World} {spare : Nat → Bool} {held : Bool}
set_option maxRecDepth 100000 in
theorem cells_frame {fuel : Nat} {cs : List Value} {x : DataW H × List MemPlace} (h : DataW.trod enc Try.prog w 0 spare held fuel 50 cs = some x) : ∃ f, FrC w w.heap.size f cs ∧ (Lit.int .i64 f.id).wf = true := by
  have h3 : cs.length = 3 := trod_len Try.underlying50 h (by kernel_rfl)
  match cs, h3 with
  | [a, b, d], _ =>
    obtain ⟨_, _, t0⟩ := trod_one Try.underlying50 h 0 3 0 a rfl (by kernel_rfl) rfl
    obtain ⟨_, _, t1⟩ := trod_one Try.underlying50 h 1 4 1 b rfl (by kernel_rfl) rfl
    obtain ⟨_, _, t2⟩ := trod_one Try.underlying50 h 2 30 2 d rfl (by kernel_rfl) rfl
    obtain ⟨i, rfl, hw⟩ := cell_int Try.underlying3 t0
    obtain ⟨r, rfl⟩ := cell_bool Try.underlying4 t1
    obtain ⟨A, n, c, l, rfl, hr⟩ := cell_bytes Try.underlying30 Try.underlying5 (by kernel_rfl) t2
    exact ⟨⟨i, r, l⟩, ⟨A, n, c, rfl, hr⟩, hw⟩
set_option maxRecDepth 100000 in
theorem open_frame {r : Reach} {b0 : Nat} {v : Value} {d : DataW H} {p : List MemPlace} (hv : Value.okWide Try.prog w r b0 50 v) (h : DataW.Trod enc Try.prog w 0 spare held 50 v d p) :
    ∃ (i : Int) (r : Bool) (A : Option Addr) (n c : Nat) (l : List UInt8), v = .agg #[.int .i64 i, .bool r, .slice A n c] ∧ (Lit.int .i64 i).wf = true ∧ RB w w.heap.size A n c l := by
  obtain ⟨cs, rfl, hsz⟩ := okWide_struct Try.underlying50 hv
  obtain ⟨fuel, hf⟩ := h
  obtain ⟨f, ⟨A, n, c, e, hr⟩, hw⟩ := cells_frame hf
  have e : cs.toList = [.int .i64 f.id, .bool f.rem, .slice A n c] := by simpa [Value.cells] using e
  refine ⟨f.id, f.rem, A, n, c, f.data, ?_, hw, hr⟩
  rw [← Array.toArray_toList (xs := cs), e]
end
end Go.Proofs.Ytkddillihhjghaa
/-
  Arguments of the statements of layer 31; light, given.
  Conditions: none.
-/
namespace Go.Proofs.Ytkddillihhjghaa
set_option linter.unusedVariables false
set_option linter.unusedSimpArgs false
open Go.ChangeShapes Go.WideShapes Go.ChangeAt Go.RowKit
/-- Something that happens. -/
structure ROp where
  kind : Int
  id : Int
  rem : Bool
  data : List UInt8
  own : Bool
def rop0 : ROp := ⟨0, 0, false, [], false⟩
def ROpC (w : World) (B : Nat) (f : ROp) (cs : List Value) : Prop := ∃ A n c, cs = [.int .i64 f.kind, .int .i64 f.id, .bool f.rem, .slice A n c, .bool f.own] ∧ RB w B A n c f.data
def ROps (w : World) (B B' : Nat) (A : Option Addr) (n c : Nat) (fs : List ROp) : Prop := RS (ROpC w B') w B 5 A n c fs
theorem ROpC.below {w w' : World} {B : Nat} {f : ROp} {cs : List Value} (hb : Below B w w') (h : ROpC w B f cs) : ROpC w' B f cs := by
  obtain ⟨A, n, c, h1, h2⟩ := h
  exact ⟨A, n, c, h1, h2.below hb⟩
section
variable {w w' : World} {B B' n c : Nat} {A : Option Addr} {fs : List ROp}
theorem ROps.len (h : ROps w B B' A n c fs) : fs.length = n := RS.len h (by decide)
theorem ROps.lt (h : ROps w B B' A n c fs) : n ≤ 9223372036854775807 := RS.lt h
theorem ROps.below (h : ROps w B B' A n c fs) (hb : Below B w w') (hB : B' ≤ B) : ROps w' B B' A n c fs := RS.below h hb fun _ _ h => h.below (hb.mono hB)
theorem ROps.at_ (h : ROps w B B' A n c fs) {i : Nat} (hi : i < n) : ∃ b o A' n' c', A = some ⟨b, o, none⟩ ∧ b < B ∧ w.cell? ⟨b, o + i * 5, none⟩ = some (.int .i64 (fs.getD i rop0).kind) ∧
    w.cell? ⟨b, o + i * 5 + 1, none⟩ = some (.int .i64 (fs.getD i rop0).id) ∧ w.cell? ⟨b, o + i * 5 + 2, none⟩ = some (.bool (fs.getD i rop0).rem) ∧ w.cell? ⟨b, o + i * 5 + 3, none⟩ = some (.slice A' n' c') ∧ w.cell? ⟨b, o + i * 5 + 4, none⟩ = some (.bool (fs.getD i rop0).own) ∧ RB w B' A' n' c' (fs.getD i rop0).data := by
  have hl := h.len
  have hf : fs[i]? = some (fs.getD i rop0) := by simp [List.getD, List.getElem?_eq_getElem (show i < fs.length by omega)]
  obtain ⟨b, o, cs, rfl, hb, ⟨A', n', c', rfl, hr⟩, hc⟩ := RS.at_ h (by decide) hf
  exact ⟨b, o, A', n', c', rfl, hb, hc 0 _ (by decide) rfl, hc 1 _ (by decide) rfl, hc 2 _ (by decide) rfl, hc 3 _ (by decide) rfl, hc 4 _ (by decide) rfl, hr⟩
end
section
variable {H : Type} {enc : TypeId × Value → H} {w : World} {spare : Nat → Bool} {held : Bool}
set_option maxRecDepth 100000 in
theorem cells_rconfig {fuel : Nat} {cs : List Value} {x : DataW H × List MemPlace} (h : DataW.trod enc Try.prog w 0 spare held fuel 26 cs = some x) :
    ∃ (v : Nat) (t : Int) (A : Option Addr) (n c : Nat) (ws : List Nat), cs = [.int .u32 (v : Int), .int .i64 t, .slice A n c] ∧ v < 4294967296 ∧ RW w w.heap.size A n c ws ∧ (∀ x ∈ ws, x < 4294967296) ∧ (Lit.int .i64 t).wf = true := by
  have h3 : cs.length = 3 := trod_len Try.underlying26 h (by kernel_rfl)
  match cs, h3 with
  | [a, b, d], _ =>
    obtain ⟨_, _, t0⟩ := trod_one Try.underlying26 h 0 23 0 a rfl (by kernel_rfl) rfl
    obtain ⟨_, _, t1⟩ := trod_one Try.underlying26 h 1 3 1 b rfl (by kernel_rfl) rfl
    obtain ⟨_, _, t2⟩ := trod_one Try.underlying26 h 2 24 2 d rfl (by kernel_rfl) rfl
    obtain ⟨i, rfl, wi⟩ := cell_int Try.underlying23 t0
    obtain ⟨j, rfl, wj⟩ := cell_int Try.underlying3 t1
    obtain ⟨A, n, c, ws, rfl, hr, hwl⟩ := cell_words t2
    obtain ⟨b1, b2⟩ := bounds_u32 wi
    obtain ⟨m, rfl⟩ := Int.eq_ofNat_of_zero_le b1
    exact ⟨m, j, A, n, c, ws, rfl, by omega, hr, hwl, wj⟩
set_option maxRecDepth 100000 in
theorem open_rconfig {r : Reach} {b0 : Nat} {v : Value} {d : DataW H} {p : List MemPlace} (hv : Value.okWide Try.prog w r b0 26 v) (h : DataW.Trod enc Try.prog w 0 spare held 26 v d p) :
    ∃ (v1 : Nat) (t : Int) (A : Option Addr) (n c : Nat) (ws : List Nat), v = .agg #[.int .u32 (v1 : Int), .int .i64 t, .slice A n c] ∧ v1 < 4294967296 ∧ RW w w.heap.size A n c ws ∧ (∀ x ∈ ws, x < 4294967296) ∧ (Lit.int .i64 t).wf = true := by
  obtain ⟨cs, rfl, hsz⟩ := okWide_struct Try.underlying26 hv
  obtain ⟨fuel, hf⟩ := h
  have hf' : DataW.trod enc Try.prog w 0 spare held fuel 26 cs.toList = some (d, p) := by simpa [Value.cells] using hf
  obtain ⟨v1, t, A, n, c, ws, e, h1, h2, h3, h4⟩ := cells_rconfig hf'
  refine ⟨v1, t, A, n, c, ws, ?_, h1, h2, h3, h4⟩
  rw [← Array.toArray_toList (xs := cs), e]
theorem cells_rop {fuel : Nat} {cs : List Value} {x : DataW H × List MemPlace} (h : DataW.trod enc Try.prog w 0 spare held fuel 60 cs = some x) : ∃ f, ROpC w w.heap.size f cs := by
  have h3 : cs.length = 5 := trod_len Try.underlying60 h (by kernel_rfl)
  match cs, h3 with
  | [a, b1, b2, b3, d], _ =>
    obtain ⟨_, _, t0⟩ := trod_one Try.underlying60 h 0 3 0 a rfl (by kernel_rfl) rfl
    obtain ⟨_, _, t1⟩ := trod_part Try.underlying60 h 1 50 1 3 rfl (by kernel_rfl)
    obtain ⟨_, _, t2⟩ := trod_one Try.underlying60 h 2 4 4 d rfl (by kernel_rfl) rfl
    obtain ⟨i, rfl, _⟩ := cell_int Try.underlying3 t0
    obtain ⟨f, ⟨A, n, c, e1, hr⟩, _⟩ := cells_frame t1
    obtain ⟨o, rfl⟩ := cell_bool Try.underlying4 t2
    have e2 : [b1, b2, b3] = [.int .i64 f.id, .bool f.rem, .slice A n c] := e1
    injection e2 with e3 e4
    injection e4 with e4 e5
    injection e5 with e5 _
    subst e3 e4 e5
    exact ⟨⟨i, f.id, f.rem, f.data, o⟩, A, n, c, rfl, hr⟩
set_option maxRecDepth 100000 in
theorem open_case31 {r : Reach} {b0 : Nat} {v : Value} {d : DataW H} {p : List MemPlace} (hv : Value.okWide Try.prog w r b0 29 v) (h : DataW.Trod enc Try.prog w 0 spare held 29 v d p) :
    ∃ (A0 A1 A2 : Option Addr) (n0 c0 n1 c1 n2 c2 v1 : Nat) (t : Int) (es : List Ent.En) (ws : List Nat) (ops : List ROp), v = .agg #[.slice A0 n0 c0, .int .u32 (v1 : Int), .int .i64 t, .slice A1 n1 c1, .slice A2 n2 c2] ∧
      REn w w.heap.size w.heap.size A0 n0 c0 es ∧ (∀ e ∈ es, e.name.length ≤ 9223372036854775807) ∧ v1 < 4294967296 ∧ RW w w.heap.size A1 n1 c1 ws ∧ (∀ x ∈ ws, x < 4294967296) ∧ (Lit.int .i64 t).wf = true ∧ ROps w w.heap.size w.heap.size A2 n2 c2 ops := by
  obtain ⟨cs, rfl, hsz⟩ := okWide_struct Try.underlying29 hv
  obtain ⟨fuel, hf⟩ := h
  have hf' : DataW.trod enc Try.prog w 0 spare held fuel 29 cs.toList = some (d, p) := by simpa [Value.cells] using hf
  have h3 : cs.toList.length = 5 := trod_len Try.underlying29 hf' (by kernel_rfl)
  obtain ⟨l, hl⟩ : ∃ l, l = cs.toList := ⟨_, rfl⟩
  rw [← hl] at h3 hf'
  match l, h3 with
  | [a, b1, b2, b3, e], _ =>
    obtain ⟨_, _, t0⟩ := trod_one Try.underlying29 hf' 0 22 0 a rfl (by kernel_rfl) rfl
    obtain ⟨_, _, t1⟩ := trod_part Try.underlying29 hf' 1 26 1 3 rfl (by kernel_rfl)
    obtain ⟨_, _, t2⟩ := trod_one Try.underlying29 hf' 2 27 4 e rfl (by kernel_rfl) rfl
    obtain ⟨A0, n0, c0, es, rfl, r0, r0'⟩ := cell_entries t0
    obtain ⟨v1, t, A1, n1, c1, ws, e1, h1, r1, r1', wt⟩ := cells_rconfig t1
    obtain ⟨A2, n2, c2, rfl⟩ := cell_slice Try.underlying27 t2
    obtain ⟨ops, xs, hlo, o1, o2⟩ := open_rows (ROpC w w.heap.size) Try.underlying27 (show Try.prog.cellsOf 60 = 5 by kernel_rfl) (by decide) (fun _ _ _ h => cells_rop h) t2
    have e2 : [b1, b2, b3] = [.int .u32 (v1 : Int), .int .i64 t, .slice A1 n1 c1] := e1
    injection e2 with e3 e4
    injection e4 with e4 e5
    injection e5 with e5 _
    subst e3 e4 e5
    refine ⟨A0, A1, A2, n0, c0, n1, c1, n2, c2, v1, t, es, ws, ops, ?_, r0, r0', h1, r1, r1', wt, ⟨xs, o1, o2⟩⟩
    rw [← Array.toArray_toList (xs := cs), ← hl]
end
set_option maxRecDepth 100000 in
set_option maxHeartbeats 1000000 in
theorem given31_any (v : Nat) (t : Int) (A : Option Addr) (n c : Nat) (w : World) : Calls Try.prog 9 #[.agg #[.int .u32 (v : Int), .int .i64 t, .slice A n c]] w fun e w' => e = .returned (.agg #[.int .u32 (v : Int), .int .i64 t, .slice A n c]) ∧ Below w.heap.size w w' := by
  have b0 := alloc_two w (.cells #[.int .u32 (v : Int), .int .i64 t, .slice A n c] 26) (.cells #[.int .u32 0, .int .i64 0, .slice none 0 0] 40)
  have KF := ((Blk.new w 26 #[.int .u32 (v : Int), .int .i64 t, .slice A n c]).alloc (.cells #[.int .u32 0, .int .i64 0, .slice none 0 0] 40)).three
  have KO := Blk.new (w.alloc (.cells #[.int .u32 (v : Int), .int .i64 t, .slice A n c] 26)) 40 #[.int .u32 0, .int .i64 0, .slice none 0 0]
  rw [World.size_alloc] at KO
  have FO := KO.three
  go_enter Try.func9, Try.ntmps9
  go_wp2_with fail
  have R0 := Blk.new (w.alloc (.cells #[.int .u32 (v : Int), .int .i64 t, .slice A n c] 26)) 40 #[.int .u32 (v : Int), .int .i64 t, .slice A n c]
  rw [World.size_alloc] at R0
  have R := R0.three
  exact bodyPost_ret (v := .agg #[.int .u32 (v : Int), .int .i64 t, .slice A n c]) (by simp [results, Try.results9, go_sem, R]) rfl ⟨rfl, alloc_two _ _ _⟩
end Go.Proofs.Ytkddillihhjghaa
