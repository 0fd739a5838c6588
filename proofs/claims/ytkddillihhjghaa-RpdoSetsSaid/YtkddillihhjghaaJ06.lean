/-
  Texts joined: DicMem, EntBef, EntRule, Typ, TypOf, TypLim, TypRef, OctPut, OctGet, OctBits, OctRef.
  Conditions: none.
-/
import Derived.Test.YtkddillihhjghaaJ01
import Derived.Test.YtkddillihhjghaaJ02
import Derived.Test.YtkddillihhjghaaJ04
import Derived.Test.YtkddillihhjghaaJ05
import Derived.Laws.Tables
import Derived.KernelRfl
import Derived.Deep.QuietTactic
import Derived.BigQuiet
/-
  A dictionary in memory, with its footprint.
  Conditions: none.
-/
namespace Go.Proofs.Ytkddillihhjghaa
set_option linter.unusedVariables false
set_option linter.unusedSimpArgs false
open Go.RowKit
theorem eten : ET Try.prog 22 62 11 104 (.agg #[.int .i64 0, .int .i64 0, .string ⟨#[]⟩, .int .i64 0, .int .i64 0, .bool false, .bool false, .int .i64 0, .int .i64 0, .int .i64 0, .slice none 0 0]) := ⟨Try.underlying22, info_parts (by kernel_rfl), rfl, by decide⟩
theorem etbs : ET Try.prog 65 30 1 24 (.slice none 0 0) := ⟨Try.underlying65, info_parts (by kernel_rfl), rfl, by decide⟩
/-- The cells of an entry; its bytes in blocks of F. -/
def EnP (w : World) (F : Nat → Prop) (e : Ent.En) (cs : List Value) : Prop := ∃ A n c, cs = enL e A n c ∧ RBp w F A n c e.dflt
/-- The cell of some bytes. -/
def ByP (w : World) (F : Nat → Prop) (b : List UInt8) (cs : List Value) : Prop := ∃ A n c, cs = [.slice A n c] ∧ RBp w F A n c b
section
variable {F G : Nat → Prop} {w w' : World} {e : Ent.En} {b : List UInt8} {cs : List Value}
theorem EnP.mv (h : EnP w F e cs) (hm : Mv G w w') (hd : ∀ b, b < w.heap.size → F b → ¬ G b) : EnP w' F e cs := by
  obtain ⟨A, n, c, h1, h2⟩ := h
  exact ⟨A, n, c, h1, h2.mv hm hd⟩
theorem EnP.mono (h : EnP w F e cs) (hi : ∀ b, b < w.heap.size → F b → G b) : EnP w G e cs := by
  obtain ⟨A, n, c, h1, h2⟩ := h
  exact ⟨A, n, c, h1, h2.mono hi⟩
theorem ByP.mv (h : ByP w F b cs) (hm : Mv G w w') (hd : ∀ b, b < w.heap.size → F b → ¬ G b) : ByP w' F b cs := by
  obtain ⟨A, n, c, h1, h2⟩ := h
  exact ⟨A, n, c, h1, h2.mv hm hd⟩
theorem ByP.mono (h : ByP w F b cs) (hi : ∀ b, b < w.heap.size → F b → G b) : ByP w G b cs := by
  obtain ⟨A, n, c, h1, h2⟩ := h
  exact ⟨A, n, c, h1, h2.mono hi⟩
end
/-- Blocks of F but two. -/
def Fx (F : Nat → Prop) (g gv : Nat) : Nat → Prop := fun b => F b ∧ b ≠ g ∧ b ≠ gv
/-- A dictionary at block g, its values' row at block gv; t: the type of its block. -/
structure DRt (t : TypeId) (w : World) (F : Nat → Prop) (g gv : Nat) (lA : Option Addr) (lc : Nat) (vA : Option Addr) (vc : Nat) (xs vs : List Value) (D : Dc.Dic) : Prop where
  fg : F g
  ne : g ≠ gv
  blk : Blk w g t #[.slice lA D.l.length lc, .slice vA D.l.length vc]
  row : RVp w (Fx F g gv) 11 lA D.l.length lc xs
  rows : Rows (EnP w (Fx F g gv)) 11 D.l xs
  own : OV w 0 30 1 vA D.l.length vc vs
  at_ : ∀ k, (Value.slice vA D.l.length vc).ownBlock = some k → k = gv ∧ F gv
  vals : Rows (ByP w (Fx F g gv)) 1 D.v vs
  len : D.v.length = D.l.length
  ord : Dc.Ord D.l
  few : D.l.length ≤ 96
  right : ∀ e ∈ D.l, Ent.rightS e = 0
section
variable {t : TypeId} {F G : Nat → Prop} {w w' : World} {g gv lc vc : Nat} {lA vA : Option Addr} {xs vs : List Value} {D : Dc.Dic}
theorem DRt.mv (h : DRt t w F g gv lA lc vA vc xs vs D) (hm : Mv G w w') (hd : ∀ b, b < w.heap.size → F b → ¬ G b) : DRt t w' F g gv lA lc vA vc xs vs D :=
  have hx : ∀ b, b < w.heap.size → Fx F g gv b → ¬ G b := fun b hb hf => hd b hb hf.1
  { fg := h.fg, ne := h.ne, blk := h.blk.mv hm (hd g h.blk.lt h.fg), row := h.row.mv hm hx, rows := h.rows.imp fun _ _ k => k.mv hm hx
    own := by
      refine ⟨h.own.1, ?_⟩
      rcases h.own.2 with h2 | ⟨k, cap, cur, hv, hg, hh, r⟩
      · exact .inl h2
      · have hk := h.at_ k (by rw [hv]; rfl)
        have hlt : k < w.heap.size := (Array.getElem?_eq_some_iff.1 hh).1
        exact .inr ⟨k, cap, cur, hv, hg, (hm.block k hlt (hd k hlt (by rw [hk.1]; exact hk.2))).trans hh, r⟩
    at_ := h.at_, vals := h.vals.imp fun _ _ k => k.mv hm hx, len := h.len, ord := h.ord, few := h.few, right := h.right }
theorem DRt.below (h : DRt t w F g gv lA lc vA vc xs vs D) (hb : Below w.heap.size w w') : DRt t w' F g gv lA lc vA vc xs vs D := h.mv (Mv.of_new hb fun _ => False) fun _ _ _ h => h
theorem DRt.mono (h : DRt t w F g gv lA lc vA vc xs vs D) (hi : ∀ b, b < w.heap.size → F b → G b) : DRt t w G g gv lA lc vA vc xs vs D :=
  have hx : ∀ b, b < w.heap.size → Fx F g gv b → Fx G g gv b := fun b hb hf => ⟨hi b hb hf.1, hf.2⟩
  { fg := hi g h.blk.lt h.fg, ne := h.ne, blk := h.blk, row := h.row.mono hx, rows := h.rows.imp fun _ _ k => k.mono hx, own := h.own
    at_ := fun k hk => ⟨(h.at_ k hk).1, hi gv (by have := (h.own.lt k hk).2; rw [(h.at_ k hk).1] at this; exact this) (h.at_ k hk).2⟩
    vals := h.vals.imp fun _ _ k => k.mono hx, len := h.len, ord := h.ord, few := h.few, right := h.right }
theorem Rows.set_one {α : Type} {R : α → List Value → Prop} {fs : List α} {xs : List Value} (h : Rows R 1 fs xs) {k : Nat} {f : α} {u : Value} (hk : k < fs.length) (hf : R f [u]) : Rows R 1 (fs.set k f) (xs.set k u) := by
  have hl := h.len
  refine ⟨by rw [List.length_set, List.length_set]; exact hl, fun i f' hi => ?_⟩
  rw [List.getElem?_set] at hi
  split at hi
  · rename_i e
    subst e
    first | (rw [if_pos hk] at hi) | skip
    injection hi with hi
    subst hi
    have : ((xs.set k u).drop (k * 1)).take 1 = [u] := by
      have hlt : k < (xs.set k u).length := by rw [List.length_set]; omega
      rw [Nat.mul_one, List.drop_eq_getElem_cons hlt, List.take_succ_cons, List.take_zero, List.getElem_set_self]
    rw [this]
    exact hf
  · rename_i e
    have h1 := h.2 i f' hi
    have : ((xs.set k u).drop (i * 1)).take 1 = (xs.drop (i * 1)).take 1 := by
      apply List.ext_getElem?
      intro j
      rw [List.getElem?_take, List.getElem?_take]
      split
      · rw [List.getElem?_drop, List.getElem?_drop, List.getElem?_set_ne (by omega)]
      · rfl
    rw [this]
    exact h1
/-- A value is set: in place, with bytes that were made. -/
theorem DRt.put {w1 : World} {k n c : Nat} {A : Option Addr} {b : List UInt8} (h : DRt t w F g gv lA lc vA vc xs vs D) (hk : k < D.l.length) (hb : Below w.heap.size w w1) (ho : OB w1 w.heap.size A n c b) :
    DRt t (w1.setCell ⟨gv, k, none⟩ (.slice A n c)) (fun q => F q ∨ (w.heap.size ≤ q ∧ q < w1.heap.size)) g gv lA lc vA vc xs (vs.set k (.slice A n c)) ⟨D.l, D.v.set k b⟩ := by
  have hA : ∃ q, vA = some ⟨q, 0, none⟩ ∧ q < w.heap.size := by
    obtain ⟨q, e, _, hq⟩ := h.own.head (by omega)
    exact ⟨q, e, hq⟩
  obtain ⟨q, rfl, hq⟩ := hA
  obtain ⟨rfl, hFq⟩ := h.at_ q rfl
  have hgl := h.blk.lt
  have h1 := (h.below hb).mono (G := fun q => F q ∨ (w.heap.size ≤ q ∧ q < w1.heap.size)) fun _ _ hf => .inl hf
  have hm : Mv (fun b => b = q) w1 (w1.setCell ⟨q, k, none⟩ (.slice A n c)) := Mv.setCell w1 ⟨q, k, none⟩ _
  have hx : ∀ b, b < w1.heap.size → Fx (fun q => F q ∨ (w.heap.size ≤ q ∧ q < w1.heap.size)) g q b → ¬ b = q := fun b _ hf => hf.2.2
  refine { fg := h1.fg, ne := h1.ne, blk := h1.blk.mv hm h1.ne, row := h1.row.mv hm hx, rows := h1.rows.imp fun _ _ k => k.mv hm hx, own := (h1.own.set k (.slice A n c)).1, at_ := h1.at_, vals := ?_, len := by rw [List.length_set]; exact h1.len, ord := h1.ord, few := h1.few, right := h1.right }
  refine Rows.set_one (h1.vals.imp fun _ _ k => k.mv hm hx) (by rw [h.len]; exact hk) ⟨A, n, c, rfl, ?_⟩
  have hr : RBp w1 (Fx (fun q => F q ∨ (w.heap.size ≤ q ∧ q < w1.heap.size)) g q) A n c b := ho.rbp fun j hj => by
    have h5 := ho.lt j hj
    exact ⟨.inr h5, by omega, by omega⟩
  exact hr.mv hm hx
theorem DRt.two (h : DRt t w F g gv lA lc vA vc xs vs D) : w.cell? ⟨g, 0, none⟩ = some (.slice lA D.l.length lc) ∧ w.cell? ⟨g, 1, none⟩ = some (.slice vA D.l.length vc) := ⟨h.blk.cell 0, h.blk.cell 1⟩
theorem DRt.lcap (h : DRt t w F g gv lA lc vA vc xs vs D) : D.l.length ≤ lc ∧ lc ≤ 9223372036854775807 := ⟨h.row.le, h.row.cap⟩
/-- An entry's cells. -/
theorem DRt.entry (h : DRt t w F g gv lA lc vA vc xs vs D) {i : Nat} (hi : i < D.l.length) : ∃ b o A n c, lA = some ⟨b, o, none⟩ ∧ b < w.heap.size ∧ RB w w.heap.size A n c (D.l.getD i Dc.en0).dflt ∧
    ∀ j u, (enL (D.l.getD i Dc.en0) A n c)[j]? = some u → w.cell? ⟨b, o + i * 11 + j, none⟩ = some u := by
  obtain ⟨b, o, rfl, hF, hb, hc⟩ := h.row.at_ (by omega)
  have hf : D.l[i]? = some (D.l.getD i Dc.en0) := by simp [List.getD, List.getElem?_eq_getElem hi]
  obtain ⟨A, n, c, e, hr⟩ := h.rows.2 i _ hf
  refine ⟨b, o, A, n, c, rfl, hb, hr.rb, fun j u hu => ?_⟩
  rw [← e, List.getElem?_take] at hu
  split at hu
  · rw [List.getElem?_drop] at hu
    rw [Nat.add_assoc]
    exact hc _ u hu
  · cases hu
/-- A value's cell. -/
theorem DRt.value (h : DRt t w F g gv lA lc vA vc xs vs D) {i : Nat} (hi : i < D.l.length) : ∃ A n c, vA = some ⟨gv, 0, none⟩ ∧ F gv ∧ gv < w.heap.size ∧ RB w w.heap.size A n c (D.v.getD i []) ∧ w.cell? ⟨gv, i, none⟩ = some (.slice A n c) ∧ w.frozen? ⟨gv, i, none⟩ = false := by
  obtain ⟨q, rfl, _, hq⟩ := h.own.head (by omega)
  obtain ⟨e1, e2⟩ := h.at_ q (by rfl)
  subst e1
  have hi' : i < D.v.length := by rw [h.len]; exact hi
  have hf : D.v[i]? = some (D.v.getD i []) := by simp [List.getD, List.getElem?_eq_getElem hi']
  obtain ⟨A, n, c, e, hr⟩ := h.vals.2 i _ hf
  refine ⟨A, n, c, rfl, e2, hq, hr.rb, ?_, h.own.free i⟩
  obtain ⟨b, o, e3, _, hc⟩ := h.own.rv.at_ (by omega)
  injection e3 with e3
  injection e3 with e3 e4
  subst e3 e4
  have hu : vs[i]? = some (.slice A n c) := by
    have h0 : ((vs.drop (i * 1)).take 1)[0]? = some (Value.slice A n c) := by rw [e]; rfl
    rw [List.getElem?_take, List.getElem?_drop] at h0
    simpa using h0
  have := hc i _ hu
  rwa [Nat.zero_add] at this
end
end Go.Proofs.Ytkddillihhjghaa
/-
  Walks: Before of layer 14, and its reference.
  Conditions: none.
-/
namespace Go.Proofs.Ytkddillihhjghaa
set_option linter.unusedVariables false
set_option linter.unusedSimpArgs false
open Go.RowKit
set_option maxRecDepth 100000 in
set_option maxHeartbeats 4000000 in
theorem Before_any (e e' : Ent.En) (A A' : Option Addr) (n c n' c' : Nat) (w : World) : Calls Try.prog 17 #[enV e A n c, enV e' A' n' c'] w fun x w' => x = .returned (.bool (Ent.befB e e')) ∧ Below w.heap.size w w' := by
  obtain ⟨ix, sb, nm, ty, ac, mp, st, mx, lo, hi, df⟩ := e
  unfold enV
  dsimp only
  obtain ⟨ix', sb', nm', ty', ac', mp', st', mx', lo', hi', df'⟩ := e'
  dsimp only
  by_cases h1 : ix = ix'
  · subst h1
    have hv : Ent.befB ⟨ix, sb, nm, ty, ac, mp, st, mx, lo, hi, df⟩ ⟨ix, sb', nm', ty', ac', mp', st', mx', lo', hi', df'⟩ = decide (sb < sb') := if_pos rfl
    rw [hv]
    have e1 : (ix != ix) = false := by simp
    have e2 : (ix == ix) = true := by simp
    have e3 : decide (ix < ix) = false := decide_eq_false (by omega)
    clear hv
    by_cases h2 : sb < sb'
    all_goals
      go_enter Try.func17, Try.ntmps17
      go_wp2_with fail
      go_ret
      exact ⟨ret_bool (by simp [h2] <;> omega), alloc_two _ _ _⟩
  · have hv : Ent.befB ⟨ix, sb, nm, ty, ac, mp, st, mx, lo, hi, df⟩ ⟨ix', sb', nm', ty', ac', mp', st', mx', lo', hi', df'⟩ = decide (ix < ix') := if_neg h1
    rw [hv]
    have e1 : (ix != ix') = true := by simpa using h1
    have e2 : (ix == ix') = false := beq_false_of_ne h1
    clear hv
    by_cases h2 : ix < ix'
    · have e3 : decide (ix < ix') = true := decide_eq_true h2
      clear h1
      go_enter Try.func17, Try.ntmps17
      go_wp2_with fail
      go_ret
      exact ⟨ret_bool (by simp [h2]), alloc_two _ _ _⟩
    · have e3 : decide (ix < ix') = false := decide_eq_false h2
      clear h1
      go_enter Try.func17, Try.ntmps17
      go_wp2_with fail
      go_ret
      exact ⟨ret_bool (by simp [h2]), alloc_two _ _ _⟩
end Go.Proofs.Ytkddillihhjghaa
/-
  Walks: the small rules of layer 14.
  Conditions: none.
-/
namespace Go.Proofs.Ytkddillihhjghaa
set_option linter.unusedVariables false
set_option linter.unusedSimpArgs false
open Go.RowKit
set_option maxRecDepth 100000 in
set_option maxHeartbeats 4000000 in
theorem flags_any (e : Ent.En) (A : Option Addr) (n c : Nat) (w : World) : Calls Try.prog 31 #[enV e A n c] w fun x w' => x = .returned (.bool (Ent.flagsB e)) ∧ Below w.heap.size w w' := by
  obtain ⟨ix, sb, nm, ty, ac, mp, st, mx, lo, hi, df⟩ := e
  unfold enV
  dsimp only
  by_cases h1 : ac = 1
  · subst h1
    cases mp <;> cases st
    all_goals
      go_enter Try.func31, Try.ntmps31
      go_wp2_with fail
      go_ret
      exact ⟨rfl, alloc_one _ _⟩
  by_cases h2 : ac = 2
  · subst h2
    cases st
    all_goals
      go_enter Try.func31, Try.ntmps31
      go_wp2_with fail
      go_ret
      exact ⟨rfl, alloc_one _ _⟩
  by_cases h3 : ac = 3
  · subst h3
    go_enter Try.func31, Try.ntmps31
    go_wp2_with fail
    go_ret
    exact ⟨rfl, alloc_one _ _⟩
  by_cases h4 : ac = 4
  · subst h4
    go_enter Try.func31, Try.ntmps31
    go_wp2_with fail
    go_ret
    exact ⟨rfl, alloc_one _ _⟩
  have e1 : (ac == 1) = false := beq_false_of_ne h1
  have e2 : (ac == 2) = false := beq_false_of_ne h2
  have e3 : (ac == 3) = false := beq_false_of_ne h3
  have e4 : (ac == 4) = false := beq_false_of_ne h4
  have hv : Ent.flagsB ⟨ix, sb, nm, ty, ac, mp, st, mx, lo, hi, df⟩ = false := by unfold Ent.flagsB; rw [if_neg h1, if_neg h2]; simp [h3, h4]
  rw [hv]
  clear hv h1 h2 h3 h4
  go_enter Try.func31, Try.ntmps31
  go_wp2_with fail
  go_ret
  exact ⟨rfl, alloc_one _ _⟩
set_option maxRecDepth 100000 in
set_option maxHeartbeats 4000000 in
theorem numbered_any (e : Ent.En) (A : Option Addr) (n c : Nat) (l h : Int) (w : World) : Calls Try.prog 32 #[enV e A n c, .int .i64 l, .int .i64 h] w fun x w' => x = .returned (.bool (Ent.numberedB e l h)) ∧ Below w.heap.size w w' := by
  obtain ⟨ix, sb, nm, ty, ac, mp, st, mx, lo, hi, df⟩ := e
  unfold enV
  dsimp only
  by_cases h1 : mx = 0
  · by_cases h2 : l ≤ lo
    · by_cases h3 : lo ≤ hi
      · by_cases h4 : hi ≤ h
        all_goals
          go_enter Try.func32, Try.ntmps32
          go_wp2_with fail
          go_ret
          exact ⟨ret_bool (by rw [Bool.eq_iff_iff]; simp [Ent.numberedB] <;> omega), alloc_one _ _⟩
      · go_enter Try.func32, Try.ntmps32
        go_wp2_with fail
        go_ret
        exact ⟨ret_bool (by rw [Bool.eq_iff_iff]; simp [Ent.numberedB] <;> omega), alloc_one _ _⟩
    · go_enter Try.func32, Try.ntmps32
      go_wp2_with fail
      go_ret
      exact ⟨ret_bool (by rw [Bool.eq_iff_iff]; simp [Ent.numberedB] <;> omega), alloc_one _ _⟩
  · have e1 : (mx == 0) = false := beq_false_of_ne h1
    go_enter Try.func32, Try.ntmps32
    go_wp2_with fail
    go_ret
    exact ⟨ret_bool (by rw [Bool.eq_iff_iff]; simp [Ent.numberedB] <;> omega), alloc_one _ _⟩
set_option maxRecDepth 100000 in
set_option maxHeartbeats 4000000 in
theorem sized_any (e : Ent.En) (A : Option Addr) (n c : Nat) (w : World) : Calls Try.prog 33 #[enV e A n c] w fun x w' => x = .returned (.bool (Ent.sizedB e)) ∧ Below w.heap.size w w' := by
  obtain ⟨ix, sb, nm, ty, ac, mp, st, mx, lo, hi, df⟩ := e
  unfold enV
  dsimp only
  by_cases h1 : lo = 0
  · by_cases h2 : hi = 0
    · subst h1 h2
      by_cases h3 : 1 ≤ mx
      · by_cases h4 : mx ≤ 256
        · cases mp
          all_goals
            go_enter Try.func33, Try.ntmps33
            go_wp2_with fail
            go_ret
            exact ⟨ret_bool (by rw [Bool.eq_iff_iff]; simp [Ent.sizedB] <;> omega), alloc_one _ _⟩
        · go_enter Try.func33, Try.ntmps33
          go_wp2_with fail
          go_ret
          exact ⟨ret_bool (by rw [Bool.eq_iff_iff]; simp [Ent.sizedB] <;> omega), alloc_one _ _⟩
      · go_enter Try.func33, Try.ntmps33
        go_wp2_with fail
        go_ret
        exact ⟨ret_bool (by rw [Bool.eq_iff_iff]; simp [Ent.sizedB] <;> omega), alloc_one _ _⟩
    · have e1 : (hi == 0) = false := beq_false_of_ne h2
      subst h1
      go_enter Try.func33, Try.ntmps33
      go_wp2_with fail
      go_ret
      exact ⟨ret_bool (by rw [Bool.eq_iff_iff]; simp [Ent.sizedB] <;> omega), alloc_one _ _⟩
  · have e1 : (lo == 0) = false := beq_false_of_ne h1
    go_enter Try.func33, Try.ntmps33
    go_wp2_with fail
    go_ret
    exact ⟨ret_bool (by rw [Bool.eq_iff_iff]; simp [Ent.sizedB] <;> omega), alloc_one _ _⟩
set_option maxRecDepth 100000 in
set_option maxHeartbeats 4000000 in
theorem Readable_any (e : Ent.En) (A : Option Addr) (n c : Nat) (w : World) : Calls Try.prog 72 #[enV e A n c] w fun x w' => x = .returned (.int .u32 (Ent.readS e)) ∧ Below w.heap.size w w' := by
  obtain ⟨ix, sb, nm, ty, ac, mp, st, mx, lo, hi, df⟩ := e
  unfold enV
  dsimp only
  by_cases h1 : ac = 3
  · subst h1
    go_enter Try.func72, Try.ntmps72
    go_wp2_with fail
    go_ret
    exact ⟨rfl, alloc_one _ _⟩
  · have e1 : (ac == 3) = false := beq_false_of_ne h1
    have hv : Ent.readS ⟨ix, sb, nm, ty, ac, mp, st, mx, lo, hi, df⟩ = 0 := if_neg h1
    rw [hv]
    clear hv h1
    go_enter Try.func72, Try.ntmps72
    go_wp2_with fail
    go_ret
    exact ⟨rfl, alloc_one _ _⟩
set_option maxRecDepth 100000 in
set_option maxHeartbeats 4000000 in
theorem Writable_any (e : Ent.En) (A : Option Addr) (n c : Nat) (w : World) : Calls Try.prog 68 #[enV e A n c] w fun x w' => x = .returned (.int .u32 (Ent.writS e)) ∧ Below w.heap.size w w' := by
  obtain ⟨ix, sb, nm, ty, ac, mp, st, mx, lo, hi, df⟩ := e
  unfold enV
  dsimp only
  by_cases h1 : ac = 1
  · subst h1
    go_enter Try.func68, Try.ntmps68
    go_wp2_with fail
    go_ret
    exact ⟨rfl, alloc_one _ _⟩
  by_cases h2 : ac = 2
  · subst h2
    go_enter Try.func68, Try.ntmps68
    go_wp2_with fail
    go_ret
    exact ⟨rfl, alloc_one _ _⟩
  have e1 : (ac == 1) = false := beq_false_of_ne h1
  have e2 : (ac == 2) = false := beq_false_of_ne h2
  have hv : Ent.writS ⟨ix, sb, nm, ty, ac, mp, st, mx, lo, hi, df⟩ = 0 := if_neg (fun h => h.elim h1 h2)
  rw [hv]
  clear hv h1 h2
  go_enter Try.func68, Try.ntmps68
  go_wp2_with fail
  go_ret
  exact ⟨rfl, alloc_one _ _⟩
end Go.Proofs.Ytkddillihhjghaa
/-
  Walks: types.kinds, of, and what is known of a type.
  Conditions: none.
-/
namespace Go.Proofs.Ytkddillihhjghaa
set_option linter.unusedVariables false
set_option linter.unusedSimpArgs false
open Go.RowKit
/-- The cells of what is known of a type. -/
def kc (t : Int) : Array Value := #[.string (T (Ty.kd t).name), .int .i64 ((Ty.kd t).size : Int), .int .i64 ((Ty.kd t).bits : Int), .bool (Ty.kd t).sgn]
def kcells : Array Value := ((List.range 32).flatMap fun (t : Nat) => (kc (t : Int)).toList).toArray
theorem run_kind : ∀ (k : Nat) (_ : k < 32) (w : World), (Instr.index 129 (.agg kcells) (.int .i64 (k : Int))).run Try.prog w = .ok (.agg (kc (k : Int))) w
  | 0, _ => fun _ => by kernel_rfl
  | 1, _ => fun _ => by kernel_rfl
  | 2, _ => fun _ => by kernel_rfl
  | 3, _ => fun _ => by kernel_rfl
  | 4, _ => fun _ => by kernel_rfl
  | 5, _ => fun _ => by kernel_rfl
  | 6, _ => fun _ => by kernel_rfl
  | 7, _ => fun _ => by kernel_rfl
  | 8, _ => fun _ => by kernel_rfl
  | 9, _ => fun _ => by kernel_rfl
  | 10, _ => fun _ => by kernel_rfl
  | 11, _ => fun _ => by kernel_rfl
  | 12, _ => fun _ => by kernel_rfl
  | 13, _ => fun _ => by kernel_rfl
  | 14, _ => fun _ => by kernel_rfl
  | 15, _ => fun _ => by kernel_rfl
  | 16, _ => fun _ => by kernel_rfl
  | 17, _ => fun _ => by kernel_rfl
  | 18, _ => fun _ => by kernel_rfl
  | 19, _ => fun _ => by kernel_rfl
  | 20, _ => fun _ => by kernel_rfl
  | 21, _ => fun _ => by kernel_rfl
  | 22, _ => fun _ => by kernel_rfl
  | 23, _ => fun _ => by kernel_rfl
  | 24, _ => fun _ => by kernel_rfl
  | 25, _ => fun _ => by kernel_rfl
  | 26, _ => fun _ => by kernel_rfl
  | 27, _ => fun _ => by kernel_rfl
  | 28, _ => fun _ => by kernel_rfl
  | 29, _ => fun _ => by kernel_rfl
  | 30, _ => fun _ => by kernel_rfl
  | 31, _ => fun _ => by kernel_rfl
  | k + 32, h => absurd h (by omega)
theorem below_setRow {B : Nat} {a w : World} (h : Below B a w) {g : Nat} (hg : B ≤ g) (cs : Array Value) : Below B a (w.setRow g cs) :=
  ⟨h.os, h.tape, h.output, by rw [size_setRow]; exact h.size, fun b hb => (setRow_other w g b cs (by omega)).trans (h.block b hb)⟩
set_option maxRecDepth 100000 in
set_option maxHeartbeats 4000000 in
theorem kinds_any (w : World) : Calls Try.prog 63 #[] w fun e w' => e = .returned (.agg kcells) ∧ Below w.heap.size w w' := by
  go_enter Try.func63, Try.ntmps63
  go_wp2_with (refine wpList_store_row rfl 129 (.tmp 0) (.tmp 12) rfl w.heap.size kcells (by kernel_rfl) (by kernel_rfl) 129 _ (heap_alloc_new w _) (by kernel_rfl) (by kernel_rfl) (by kernel_rfl) ?_)
  exact bodyPost_ret (v := .agg kcells) (results_cell_row Try.results63 _ _ w.heap.size 129 kcells (0, 0) _ (by kernel_rfl) (setRow_heap _ _ _ _ _ _ (heap_alloc_new w _)) Try.underlying129 rfl (by kernel_rfl)) rfl ⟨rfl, below_setRow (alloc_one w _) (Nat.le_refl _) _⟩
end Go.Proofs.Ytkddillihhjghaa
/-
  Walks: what is known of a type.
  Conditions: none.
-/
namespace Go.Proofs.Ytkddillihhjghaa
set_option linter.unusedVariables false
set_option linter.unusedSimpArgs false
open Go.RowKit
set_option maxRecDepth 100000 in
set_option maxHeartbeats 4000000 in
theorem of_any (t : Int) (w : World) : Calls Try.prog 49 #[.int .i64 t] w fun e w' => e = .returned (.agg #[.string (T (Ty.kd t).name), .int .i64 ((Ty.kd t).size : Int), .int .i64 ((Ty.kd t).bits : Int), .bool (Ty.kd t).sgn]) ∧ Below w.heap.size w w' := by
  by_cases h : 0 ≤ t ∧ t < 32
  · obtain ⟨h1, h2⟩ := h
    obtain ⟨k, rfl⟩ : ∃ k : Nat, t = (k : Int) := ⟨t.toNat, by omega⟩
    have hr := run_kind k (by omega)
    unfold kc at hr
    generalize (Ty.kd (k : Int)).name = nm at *
    generalize (Ty.kd (k : Int)).size = sz at *
    generalize (Ty.kd (k : Int)).bits = bt at *
    generalize (Ty.kd (k : Int)).sgn = sg at *
    generalize hkc : kcells = K at *
    have C := Lib.hid (fun w => kinds_any w)
    rw [hkc] at C
    clear hkc
    go_enter Try.func49, Try.ntmps49
    go_wp2_with fail
    refine (C.out _).mono ?_
    rintro e w1 ⟨rfl, b1⟩
    have KB := Blk.made b1
    have F := KB.four
    have hlt := KB.lt
    go_wp2_with fail
    have K4 := KB.store4 (.string (T nm)) (.int .i64 (sz : Int)) (.int .i64 (bt : Int)) (.bool sg)
    have F4 := K4.four.1
    exact bodyPost_ret (v := .agg #[.string (T nm), .int .i64 (sz : Int), .int .i64 (bt : Int), .bool sg]) (by simp [results, Try.results49, go_sem, F4]) rfl ⟨rfl, ((((below_step (alloc_one _ _) b1 (Nat.le_refl _)).setCell (p := ⟨w.heap.size, 0, none⟩) (Nat.le_refl _) _).setCell (p := ⟨w.heap.size, 1, none⟩) (Nat.le_refl _) _).setCell (p := ⟨w.heap.size, 2, none⟩) (Nat.le_refl _) _).setCell (p := ⟨w.heap.size, 3, none⟩) (Nat.le_refl _) _⟩
  · have e : Ty.kd t = Ty.kd0 := Ty.kd_none (by
      intro hm
      unfold Ty.nums at hm
      simp only [List.mem_cons, List.not_mem_nil, or_false] at hm
      omega)
    rw [e]
    rcases (show t < 0 ∨ (0 ≤ t ∧ 32 ≤ t) by omega) with h | ⟨h1, h2⟩
    all_goals
      clear e
      go_enter Try.func49, Try.ntmps49
      go_wp2_with fail
      exact bodyPost_ret (v := .agg #[.string (T []), .int .i64 0, .int .i64 0, .bool false]) (by simp [results, Try.results49, go_sem]; rfl) rfl ⟨rfl, alloc_one _ _⟩
theorem TBits_any (t : Int) (w : World) : Calls Try.prog 46 #[.int .i64 t] w fun e w' => e = .returned (.int .i64 ((Ty.kd t).bits : Int)) ∧ Below w.heap.size w w' := by
  have C := Lib.hid (of_any t w)
  generalize (Ty.kd t).name = nm at *
  generalize (Ty.kd t).size = sz at *
  generalize (Ty.kd t).bits = bt at *
  generalize (Ty.kd t).sgn = sg at *
  have hfd : ∀ w : World, (Instr.field 115 (.agg #[.string (T nm), .int .i64 (sz : Int), .int .i64 (bt : Int), .bool sg]) 2).run Try.prog w = .ok (.int .i64 (bt : Int)) w := fun _ => by kernel_rfl
  go_enter Try.func46, Try.ntmps46
  go_wp2_with fail
  refine (C.out).mono ?_
  rintro e w1 ⟨rfl, b1⟩
  go_wp2_with fail
  go_ret
  exact ⟨rfl, b1⟩
theorem kd_named (t : Int) : (Ty.kd t).name ≠ [] ∨ Ty.kd t = Ty.kd0 := by
  rcases Ty.kd_cases t with h | ⟨_, h⟩
  · left
    rcases h with rfl | rfl | rfl | rfl | rfl | rfl | rfl | rfl | rfl | rfl | rfl <;> decide
  · exact .inr h
/-- Is the type known? -/
def knownB (t : Int) : Bool := !(Ty.kd t).name.isEmpty
set_option maxHeartbeats 1000000 in
theorem TKnown_any (t : Int) (w : World) : Calls Try.prog 30 #[.int .i64 t] w fun e w' => e = .returned (.bool (knownB t)) ∧ Below w.heap.size w w' := by
  have C := Lib.hid (of_any t w)
  unfold knownB
  rcases kd_named t with h | h
  · generalize (Ty.kd t).name = nm at *
    generalize (Ty.kd t).size = sz at *
    generalize (Ty.kd t).bits = bt at *
    generalize (Ty.kd t).sgn = sg at *
    have h1 : nm.isEmpty = false := by simpa using h
    rw [h1]
    have h2 := T_toList nm
    have h3 : T nm ≠ T [] := T_ne h
    clear h
    go_enter Try.func30, Try.ntmps30
    go_wp2_with fail
    refine (C.out).mono ?_
    rintro e w1 ⟨rfl, b1⟩
    go_wp2_with fail
    go_ret
    exact ⟨rfl, b1⟩
  · rw [h] at C ⊢
    unfold Ty.kd0 at C ⊢
    dsimp only at C ⊢
    rw [show T [] = (⟨#[]⟩ : ByteArray) from rfl] at C
    go_enter Try.func30, Try.ntmps30
    go_wp2_with fail
    refine (C.out).mono ?_
    rintro e w1 ⟨rfl, b1⟩
    go_wp2_with fail
    go_ret
    exact ⟨rfl, b1⟩
end Go.Proofs.Ytkddillihhjghaa
/-
  Walks: types.Limits, ByName.
  Conditions: none.
-/
namespace Go.Proofs.Ytkddillihhjghaa
set_option linter.unusedVariables false
set_option linter.unusedSimpArgs false
open Go.RowKit
def LimPost (p : Int × Int × Bool) (w : World) (e : Ending) (w' : World) : Prop := e = .returned (.tuple #[.int .i64 p.1, .int .i64 p.2.1, .bool p.2.2]) ∧ Below w.heap.size w w'
theorem lim_mk {p : Int × Int × Bool} {w w' : World} {a b : Int} {x : Bool} (h : p = (a, b, x)) (hb : Below w.heap.size w w') : LimPost p w (.returned (.tuple #[.int .i64 a, .int .i64 b, .bool x])) w' := by
  subst h; exact ⟨rfl, hb⟩
set_option maxRecDepth 100000 in
set_option maxHeartbeats 4000000 in
theorem Limits_any (t : Int) (w : World) : Calls Try.prog 28 #[.int .i64 t] w (LimPost (Ty.limS t) w) := by
  have C := of_any t w
  have hl : Ty.limS t = if (Ty.kd t).bits = 0 then (0, 0, false) else if (Ty.kd t).sgn = true then (-((2 ^ ((Ty.kd t).bits - 1) : Nat) : Int), ((2 ^ ((Ty.kd t).bits - 1) : Nat) : Int) - 1, true) else (0, ((2 ^ (Ty.kd t).bits : Nat) : Int) - 1, true) := rfl
  have hc : (Ty.kd t).bits = 0 ∨ ((Ty.kd t).sgn = true ∧ ((Ty.kd t).bits = 8 ∨ (Ty.kd t).bits = 16 ∨ (Ty.kd t).bits = 32 ∨ (Ty.kd t).bits = 64)) ∨ ((Ty.kd t).sgn = false ∧ ((Ty.kd t).bits = 1 ∨ (Ty.kd t).bits = 8 ∨ (Ty.kd t).bits = 16 ∨ (Ty.kd t).bits = 32)) := by
    rcases Ty.kd_cases t with h | ⟨_, h⟩
    · rcases h with rfl | rfl | rfl | rfl | rfl | rfl | rfl | rfl | rfl | rfl | rfl <;> decide
    · rw [h]; exact .inl rfl
  generalize (Ty.kd t).name = nm at *
  generalize (Ty.kd t).size = sz at *
  generalize (Ty.kd t).bits = bt at *
  generalize (Ty.kd t).sgn = sg at *
  rcases hc with rfl | ⟨rfl, rfl | rfl | rfl | rfl⟩ | ⟨rfl, rfl | rfl | rfl | rfl⟩
  all_goals
    have HL := Lib.hid hl
    clear hl
    replace C := Lib.hid C
    go_enter Try.func28, Try.ntmps28
    go_wp2_with fail
    refine (C.out).mono ?_
    rintro e w1 ⟨rfl, b1⟩
    go_wp2_with fail
  all_goals first
    | (go_ret3; exact lim_mk (by rw [HL.out]; rfl) (b1.alloc b1.size _))
    | (go_quiet (fail); go_wp2_with fail; go_ret3; exact lim_mk (by rw [HL.out]; rfl) (below_drewN (b1.alloc b1.size _) _))
end Go.Proofs.Ytkddillihhjghaa
/-
  Not of this seat.
  Conditions: none.
-/
/-
  Walks: octet.there, octet.Put.
  Conditions: none.
-/
namespace Go.Proofs.Ytkddillihhjghaa
set_option linter.unusedVariables false
set_option linter.unusedSimpArgs false
open Go.RowKit
theorem there_yes (x : Int) (w : World) (h1 : 1 ≤ x) (h2 : x ≤ 8) : Calls Try.prog 56 #[.int .i64 x] w fun e w' => e = .returned (.bool true) ∧ w = w' := by
  go_enter Try.func56, Try.ntmps56
  go_wp2
  go_ret
  exact ⟨by simp [h2], rfl⟩
theorem there_no (x : Int) (w : World) (h : ¬ (1 ≤ x ∧ x ≤ 8)) : Calls Try.prog 56 #[.int .i64 x] w fun e w' => e = .returned (.bool false) ∧ w = w' := by
  by_cases h1 : 1 ≤ x
  · have h2 : ¬ x ≤ 8 := fun h2 => h ⟨h1, h2⟩
    clear h
    go_enter Try.func56, Try.ntmps56
    go_wp2
    all_goals
      go_ret
      exact ⟨by simp <;> omega, rfl⟩
  · clear h
    go_enter Try.func56, Try.ntmps56
    go_wp2
    all_goals
      go_ret
      exact ⟨by simp <;> omega, rfl⟩

set_option maxHeartbeats 400000 in
theorem Put_arg {A : Option Addr} {n c : Nat} (x m : Int) (w : World) (h : ¬ (1 ≤ x ∧ x ≤ 8)) :
    Calls Try.prog 40 #[.slice A n c, .int .i64 x, .int .u64 m] w fun e w' => e = .returned (.tuple #[.slice none 0 0, .int .i64 1]) ∧ w = w' := by
  go_enter Try.func40, Try.ntmps40
  go_wp2_with (go_at_call 56; refine (there_no _ _ h).mono ?_; rintro e w' ⟨rfl, rfl⟩)
  go_ret2
  exact ⟨rfl, rfl⟩

theorem pow_shift (k : Nat) : (2 : Int) ^ (8 * k) = ((256 ^ k : Nat) : Int) := by
  rw [Int.pow_mul]; simp
theorem byte_shift (m j : Nat) : ((m : Int) / 2 ^ (8 * j)) % 256 = ((UInt8.ofNat (m / 256 ^ j)).toNat : Int) := by
  rw [pow_shift, ← Int.natCast_ediv, UInt8.toNat_ofNat']
  simp
set_option maxHeartbeats 400000 in
theorem Put_range {A : Option Addr} {n c : Nat} (k m : Nat) (w : World) (h1 : 1 ≤ k) (h2 : k ≤ 8) (hm : m < 18446744073709551616) (h : 256 ^ k ≤ m) :
    Calls Try.prog 40 #[.slice A n c, .int .i64 (k : Int), .int .u64 (m : Int)] w fun e w' => e = .returned (.tuple #[.slice none 0 0, .int .i64 9]) ∧ w = w' := by
  have hk : k < 8 := by
    rcases Nat.lt_or_ge k 8 with hk | hk
    · exact hk
    · obtain rfl : k = 8 := by omega
      omega
  have ht : ((m : Int) / 2 ^ (8 * k) != 0) = true := by
    rw [pow_shift, bne_iff_ne, ← Int.natCast_ediv]
    have := Nat.div_pos h (Nat.pow_pos (by decide : 0 < 256))
    omega
  clear h
  go_enter Try.func40, Try.ntmps40
  go_wp2_with (first | (go_at_call 56; refine (there_yes _ _ (by omega) (by omega)).mono ?_; rintro e w' ⟨rfl, rfl⟩) | fail)
  go_ret2
  exact ⟨rfl, rfl⟩

set_option maxHeartbeats 1000000 in
theorem Put_ok {A : Option Addr} {n c B : Nat} {l : List UInt8} (k m : Nat) (w : World) (hb : RB w B A n c l) (hn : n < 140737488355000) (hB : B ≤ w.heap.size) (h1 : 1 ≤ k) (h2 : k ≤ 8) (hm : m < 18446744073709551616) (h : m < 256 ^ k) :
    Calls Try.prog 40 #[.slice A n c, .int .i64 (k : Int), .int .u64 (m : Int)] w fun e w' =>
      ∃ A1 c1, e = .returned (.tuple #[.slice A1 (n + k) c1, .int .i64 0]) ∧ OB w' w.heap.size A1 (n + k) c1 (l ++ Oct.lb k m) ∧ Below w.heap.size w w' := by
  have ht : ((m : Int) / 2 ^ (8 * k) != 0) = false := by
    rw [pow_shift, bne_eq_false_iff_eq, ← Int.natCast_ediv, Nat.div_eq_of_lt h]; rfl
  clear h
  by_cases hk : k < 8
  all_goals
    go_enter Try.func40, Try.ntmps40
    go_wp2_with (first
      | (go_at_call 56; refine (there_yes _ _ (by omega) (by omega)).mono ?_; rintro e w' ⟨rfl, rfl⟩)
      | (at_make; refine wpList_mkb etb rfl (.tmp 26) (.tmp 30) rfl .i64 .i64 n (n + k) rfl rfl (by omega) (by omega) w.heap.size (Nat.le_refl _) ?_; intro w1 hw1 hb1 hs1)
      | (refine wpList_cpb etb rfl (.tmp 32) (.tmp 33) rfl rfl rfl w.heap.size hw1 (hb.below (hb1.mono hB)) (Nat.le_refl _) ?_; intro w2 hw2 hg2 hs2; have hb2 := grown_below hg2 hw1.lt (by omega))
      | fail)
    rw [List.drop_of_length_le (by simp), List.append_nil] at hw2
    go_loopw [8, 36] (fun v i wr => ∃ (j : Nat) (A1 : Option Addr) (c1 : Nat), j ≤ k ∧ i = .int .i64 j ∧ v = .slice A1 (n + j) c1 ∧ OB wr w.heap.size A1 (n + j) c1 (l ++ Oct.lb j m) ∧ Below w.heap.size w wr) (fun _ i _ => k - (intOf i).toNat)
    case atStart => exact ⟨0, _, _, Nat.zero_le _, rfl, rfl, by simpa [Oct.lb] using hw2, hb1.trans hb2⟩
    case round =>
      obtain ⟨j, A1, c1, hj, rfl, rfl, hown, hbel⟩ := hrel
      by_cases hlt : j < k
      · go_wp2_with (at_builtin; refine wpList_appb_one etb rfl (.tmp 39) (.tmp 46) rfl rfl rfl w.heap.size hown (UInt8.ofNat (m / 256 ^ j)) (byte_shift m j) (by omega) hbel.size ?_; intro A2 c2 w3 h3 hb3 _ _)
        go_roundw
        case rel => exact ⟨j + 1, A2, c2, by omega, by go_num, rfl, by rw [Oct.lb, ← List.append_assoc]; exact h3, hbel.trans hb3⟩
        case measure => simp [intOf]; omega
      · obtain rfl : j = k := by omega
        go_wp2
        go_ret2
        exact ⟨_, _, rfl, hown, hbel⟩
end Go.Proofs.Ytkddillihhjghaa
/-
  Walks: octet.Get.
  Conditions: none.
-/
namespace Go.Proofs.Ytkddillihhjghaa
set_option linter.unusedVariables false
set_option linter.unusedSimpArgs false
open Go.RowKit
set_option maxHeartbeats 400000 in
theorem Get_arg {A : Option Addr} {n c : Nat} (x p : Int) (w : World) (h : ¬ (1 ≤ x ∧ x ≤ 8) ∨ p < 0 ∨ (n : Int) < p) :
    Calls Try.prog 71 #[.slice A n c, .int .i64 p, .int .i64 x] w fun e w' => e = .returned (.tuple #[.int .u64 0, .int .i64 1]) ∧ w = w' := by
  by_cases hx : 1 ≤ x ∧ x ≤ 8
  · have h' : p < 0 ∨ (n : Int) < p := h.resolve_left (fun h => h hx)
    clear h
    obtain ⟨h1, h2⟩ := hx
    by_cases hp : p < 0
    · go_enter Try.func71, Try.ntmps71
      go_wp2_with (go_at_call 56; refine (there_yes _ _ h1 h2).mono ?_; rintro e w' ⟨rfl, rfl⟩)
      go_ret2
      exact ⟨rfl, rfl⟩
    · have hq : (n : Int) < p := h'.resolve_left hp
      clear h'
      go_enter Try.func71, Try.ntmps71
      go_wp2_with (go_at_call 56; refine (there_yes _ _ h1 h2).mono ?_; rintro e w' ⟨rfl, rfl⟩)
      go_ret2
      exact ⟨rfl, rfl⟩
  · clear h
    go_enter Try.func71, Try.ntmps71
    go_wp2_with (go_at_call 56; refine (there_no _ _ hx).mono ?_; rintro e w' ⟨rfl, rfl⟩)
    go_ret2
    exact ⟨rfl, rfl⟩
set_option maxHeartbeats 400000 in
theorem Get_short {A : Option Addr} {n c : Nat} (x p : Int) (w : World) (h1 : 1 ≤ x) (h2 : x ≤ 8) (h3 : 0 ≤ p) (h4 : p ≤ (n : Int)) (hn : n ≤ 9223372036854775807) (h : (n : Int) - p < x) :
    Calls Try.prog 71 #[.slice A n c, .int .i64 p, .int .i64 x] w fun e w' => e = .returned (.tuple #[.int .u64 0, .int .i64 2]) ∧ w = w' := by
  go_enter Try.func71, Try.ntmps71
  go_wp2_with (go_at_call 56; refine (there_yes _ _ h1 h2).mono ?_; rintro e w' ⟨rfl, rfl⟩)
  go_ret2
  exact ⟨rfl, rfl⟩
theorem or_step {v a j : Nat} (hv : v < 256 ^ j) (ha : a < 256) (hj : j < 8) : bits .or .u64 (v : Int) (IntKind.u64.wrap ((a : Int) * 2 ^ (8 * j))) = ((v + a * 256 ^ j : Nat) : Int) := by
  have hp : 256 ^ j * 256 ≤ 18446744073709551616 := by
    rw [← Nat.pow_succ]
    exact Nat.le_trans (Nat.pow_le_pow_right (by decide) (show j + 1 ≤ 8 by omega)) (by decide)
  have h1 : a * 256 ^ j < 256 ^ j * 256 := by rw [Nat.mul_comm]; exact Nat.mul_lt_mul_of_pos_left ha (Nat.pow_pos (by decide))
  have h2 : 256 ^ j ≤ 256 ^ j * 256 := Nat.le_mul_of_pos_right _ (by decide)
  rw [pow_shift, ← Int.natCast_mul, IntKind.wrap_u64, Int.emod_eq_of_lt (by omega) (by omega), u64_or_nat _ _ (by omega) (by omega), Nat.or_comm, nat_join (8 * j), Nat.add_comm]
  · rw [Nat.pow_mul]; exact Nat.mul_mod_left _ _
  · rw [Nat.pow_mul]; exact hv
set_option maxHeartbeats 1000000 in
theorem Get_ok {A : Option Addr} {n c B : Nat} {l : List UInt8} (k p : Nat) (w : World) (hb : RB w B A n c l) (h1 : 1 ≤ k) (h2 : k ≤ 8) (h : p + k ≤ n) :
    Calls Try.prog 71 #[.slice A n c, .int .i64 (p : Int), .int .i64 (k : Int)] w fun e w' => e = .returned (.tuple #[.int .u64 (Oct.le (Oct.cut l p k) : Int), .int .i64 0]) ∧ w = w' := by
  have hn := hb.lt
  have hl := hb.len
  obtain ⟨b, o, rfl, hbB, hc⟩ := hb.at_ (by omega)
  have HL := Lib.hid hl; clear hl
  clear hb
  go_enter Try.func71, Try.ntmps71
  go_wp2_with (go_at_call 56; refine (there_yes _ _ (by omega) (by omega)).mono ?_; rintro e w' ⟨rfl, rfl⟩)
  go_loop [8, 32] (fun v i => ∃ j : Nat, j ≤ k ∧ i = .int .i64 j ∧ v = .int .u64 (Oct.le (Oct.cut l p j) : Int)) (fun _ i => k - (intOf i).toNat)
  case atStart => exact ⟨0, Nat.zero_le _, rfl, by rw [Oct.cut_zero]; rfl⟩
  case round =>
    obtain ⟨j, hj, rfl, rfl⟩ := hrel
    by_cases hlt : j < k
    · have hcj := hc (p + j) (by omega)
      have hx := byte_lt (l.getD (p + j) 0)
      generalize hxe : l.getD (p + j) 0 = x at *
      have HX := Lib.hid hxe; clear hxe hc
      generalize hve : Oct.le (Oct.cut l p j) = v at *
      have HV := Lib.hid hve; clear hve
      go_wp2
      go_round
      case rel =>
        refine ⟨j + 1, by omega, by go_num, ?_⟩
        have hl := HL.out
        have h3 : v < 256 ^ j := by rw [← HV.out]; have := Oct.le_lt (Oct.cut l p j); rwa [Oct.cut_length _ _ _ (by omega)] at this
        rw [or_step h3 hx (by omega), Oct.cut_succ _ _ _ (by omega), Oct.le_snoc, Oct.cut_length _ _ _ (by omega), HX.out, HV.out]
      case measure => simp [intOf]; omega
    · obtain rfl : j = k := by omega
      clear hc
      go_wp2
      go_ret2
      exact ⟨rfl, rfl⟩
end Go.Proofs.Ytkddillihhjghaa
/-
  Walks: octet.mask, extend, Low, Sign, PutInt, GetInt; Put and Get whole.
  Conditions: none.
-/
namespace Go.Proofs.Ytkddillihhjghaa
set_option linter.unusedVariables false
set_option linter.unusedSimpArgs false
open Go.RowKit
set_option maxHeartbeats 400000 in
theorem extend_any (n b : Nat) {x : Int} (hx : x = (b : Int)) (w : World) (hn : n < 18446744073709551616) (h1 : 1 ≤ b) (h2 : b ≤ 64) :
    Calls Try.prog 74 #[.int .u64 (n : Int), .int .i64 x] w fun e w' => e = .returned (.int .i64 (Oct.sgn n b)) ∧ w = w' := by
  subst hx
  go_enter Try.func74, Try.ntmps74
  go_wp2
  go_ret
  exact ⟨ret_int (by unfold wrap64; rw [IntKind.wrap_u64]; exact Oct.extend_val n b h1 h2), rfl⟩

set_option maxHeartbeats 400000 in
theorem Put_any {A : Option Addr} {n c B : Nat} {l : List UInt8} (x : Int) (m : Nat) (w : World) (hb : RB w B A n c l) (hn : n < 140737488355000) (hB : B ≤ w.heap.size) (hm : m < 18446744073709551616) :
    Calls Try.prog 40 #[.slice A n c, .int .i64 x, .int .u64 (m : Int)] w fun e w' =>
      ∃ A1 c1, e = .returned (.tuple #[.slice A1 (Oct.putS l x m).1.length c1, .int .i64 (Oct.putS l x m).2]) ∧ OB w' w.heap.size A1 (Oct.putS l x m).1.length c1 (Oct.putS l x m).1 ∧ Below w.heap.size w w' := by
  unfold Oct.putS
  by_cases h : 1 ≤ x ∧ x ≤ 8
  · obtain ⟨k, rfl⟩ := Int.eq_ofNat_of_zero_le (show 0 ≤ x by omega)
    rw [if_pos h]
    by_cases hk : 256 ^ k ≤ m
    · have e : 256 ^ ((k : Nat) : Int).toNat ≤ m := hk
      rw [if_pos e]
      exact (Put_range k m w (by omega) (by omega) hm hk).mono fun e w' ⟨he, hw⟩ => by subst hw; exact ⟨none, 0, he, OB.none_ _ _, Below.refl _ _⟩
    · have e : ¬ 256 ^ ((k : Nat) : Int).toNat ≤ m := hk
      have hl : (l ++ Oct.lb k m).length = n + k := by rw [List.length_append, Oct.lb_length, hb.len]
      rw [if_neg e]
      refine (Put_ok k m w hb hn hB (by omega) (by omega) hm (by omega)).mono fun e w' ⟨A1, c1, he, h1, h2⟩ => ⟨A1, c1, ?_, ?_, h2⟩
      · show e = .returned (.tuple #[.slice A1 (l ++ Oct.lb k m).length c1, _])
        rw [hl]; exact he
      · show OB w' _ A1 (l ++ Oct.lb k m).length c1 (l ++ Oct.lb k m)
        rw [hl]; exact h1
  · rw [if_neg h]
    exact (Put_arg x m w h).mono fun e w' ⟨he, hw⟩ => by subst hw; exact ⟨none, 0, he, OB.none_ _ _, Below.refl _ _⟩

set_option maxHeartbeats 400000 in
theorem Get_any {A : Option Addr} {n c B : Nat} {l : List UInt8} (p x : Int) (w : World) (hb : RB w B A n c l) :
    Calls Try.prog 71 #[.slice A n c, .int .i64 p, .int .i64 x] w fun e w' => e = .returned (.tuple #[.int .u64 ((Oct.getS l p x).1 : Int), .int .i64 (Oct.getS l p x).2]) ∧ w = w' := by
  have hl := hb.len
  have hn := hb.lt
  unfold Oct.getS
  by_cases h : 1 ≤ x ∧ x ≤ 8 ∧ 0 ≤ p ∧ p ≤ (l.length : Int)
  · rw [if_pos h]
    obtain ⟨h1, h2, h3, h4⟩ := h
    by_cases hs : (l.length : Int) - p < x
    · rw [if_pos hs]
      exact Get_short x p w h1 h2 h3 (by omega) hn (by omega)
    · rw [if_neg hs]
      obtain ⟨k, rfl⟩ := Int.eq_ofNat_of_zero_le (show 0 ≤ x by omega)
      obtain ⟨q, rfl⟩ := Int.eq_ofNat_of_zero_le h3
      exact Get_ok k q w hb (by omega) (by omega) (by omega)
  · rw [if_neg h]
    exact Get_arg x p w (by rw [← hl]; omega)
theorem getS_lt (l : List UInt8) (p x : Int) : (Oct.getS l p x).1 < 18446744073709551616 := by
  unfold Oct.getS
  split
  · rename_i h
    split
    · decide
    · have h1 := Oct.le_lt (Oct.cut l p.toNat x.toNat)
      rw [Oct.cut_length _ _ _ (by omega)] at h1
      exact Nat.lt_of_lt_of_le h1 (Nat.le_trans (Nat.pow_le_pow_right (by decide) (show x.toNat ≤ 8 by omega)) (by decide))
  · decide
theorem getS_ok {l : List UInt8} {p x : Int} (h : (Oct.getS l p x).2 = 0) : 1 ≤ x ∧ x ≤ 8 := by
  unfold Oct.getS at h
  split at h
  · rename_i h1; exact ⟨h1.1, h1.2.1⟩
  · simp at h
set_option maxHeartbeats 400000 in
theorem GetInt_any {A : Option Addr} {n c B : Nat} {l : List UInt8} (p x : Int) (w : World) (hb : RB w B A n c l) :
    Calls Try.prog 70 #[.slice A n c, .int .i64 p, .int .i64 x] w fun e w' => e = .returned (.tuple #[.int .i64 (Oct.getIntS l p x).1, .int .i64 (Oct.getIntS l p x).2]) ∧ w = w' := by
  have hlt := getS_lt l p x
  have hok := getS_ok (l := l) (p := p) (x := x)
  have hg := Get_any p x w hb
  unfold Oct.getIntS
  generalize Oct.getS l p x = y at *
  obtain ⟨y, ye⟩ := y
  dsimp only at *
  have HG := Lib.hid hg; clear hg
  by_cases he : ye = 0
  · rw [if_pos he]
    obtain ⟨h1, h2⟩ := hok he
    clear hok
    subst he
    go_enter Try.func70, Try.ntmps70
    go_wp2_with fail
    refine HG.out.mono ?_
    rintro e w1 ⟨rfl, rfl⟩
    go_wp2_with fail
    refine (extend_any y (8 * x.toNat) (by omega) _ hlt (by omega) (by omega)).mono ?_
    rintro e w1 ⟨rfl, rfl⟩
    go_wp2_with fail
    go_ret2
    exact ⟨rfl, rfl⟩
  · rw [if_neg he]
    clear hok
    have ht : (ye != 0) = true := by rw [bne_iff_ne]; exact he
    clear he
    go_enter Try.func70, Try.ntmps70
    go_wp2_with fail
    refine HG.out.mono ?_
    rintro e w1 ⟨rfl, rfl⟩
    go_wp2_with fail
    go_ret2
    exact ⟨rfl, rfl⟩
end Go.Proofs.Ytkddillihhjghaa
/-
  Walks: the reference's Low, Sign, half, PutInt, Get, GetInt.
  Conditions: none.
-/
namespace Go.Proofs.Ytkddillihhjghaa
set_option linter.unusedVariables false
set_option linter.unusedSimpArgs false
open Go.RowKit


end Go.Proofs.Ytkddillihhjghaa
