/-
  Texts joined: Foot, DicMem, EntBef, EntRule, Typ, TypOf.
  Conditions: none.
-/
import Derived.Test.YtkddillihhjghaaGreatJ01
import Derived.Test.YtkddillihhjghaaGreatJ02
import Derived.Test.YtkddillihhjghaaGreatJ04
import Derived.Test.YtkddillihhjghaaGreatJ05
import Derived.Laws.Tables
import Derived.KernelRfl
/-
  Memory with a footprint: which blocks a datum lies in, which blocks a call touches.
  Conditions: none.
-/
namespace Go.Proofs.YtkddillihhjghaaGreat
set_option linter.unusedVariables false
set_option linter.unusedSimpArgs false
open Go.RowKit
/-- Nothing but blocks of F, and new ones, is touched. -/
structure Mv (F : Nat → Prop) (w w' : World) : Prop where
  os : w'.os = w.os
  tape : w'.tape = w.tape
  output : w'.output = w.output
  size : w.heap.size ≤ w'.heap.size
  block : ∀ b, b < w.heap.size → ¬ F b → w'.heap[b]? = w.heap[b]?
section
variable {F G : Nat → Prop} {w w' w1 w2 : World}
theorem Mv.refl (F : Nat → Prop) (w : World) : Mv F w w := ⟨rfl, rfl, rfl, Nat.le_refl _, fun _ _ _ => rfl⟩
theorem Mv.trans (h : Mv F w w1) (k : Mv G w1 w2) (hG : ∀ b, b < w.heap.size → G b → F b) : Mv F w w2 :=
  ⟨k.os.trans h.os, k.tape.trans h.tape, k.output.trans h.output, Nat.le_trans h.size k.size, fun b hb hF => (k.block b (Nat.lt_of_lt_of_le hb h.size) fun hg => hF (hG b hb hg)).trans (h.block b hb hF)⟩
theorem Mv.mono (h : Mv F w w') (hi : ∀ b, b < w.heap.size → F b → G b) : Mv G w w' := ⟨h.os, h.tape, h.output, h.size, fun b hb hG => h.block b hb fun hF => hG (hi b hb hF)⟩
theorem Mv.of_below {B : Nat} (h : Below B w w') : Mv (fun b => B ≤ b) w w' := ⟨h.os, h.tape, h.output, h.size, fun b _ hF => h.block b (Nat.lt_of_not_le hF)⟩
theorem Mv.of_new (h : Below w.heap.size w w') (F : Nat → Prop) : Mv F w w' := ⟨h.os, h.tape, h.output, h.size, fun b hb _ => h.block b hb⟩
theorem Mv.of_grown {row : Option Nat} (h : w.grownBy w' row) : Mv (fun b => some b = row) w w' := ⟨h.os, h.tape, h.output, h.size, fun b hb hF => h.block b hb hF⟩
theorem Mv.grown {g : Nat} (h : Mv (fun b => b = g) w w') : w.grownBy w' (some g) := ⟨h.os, h.tape, h.output, h.size, fun b hb hF => h.block b hb fun e => hF (by rw [e])⟩
theorem Mv.below {B : Nat} (h : Mv F w w') (hB : B ≤ w.heap.size) (hF : ∀ b, F b → B ≤ b) : Below B w w' := ⟨h.os, h.tape, h.output, h.size, fun b hb => h.block b (Nat.lt_of_lt_of_le hb hB) fun hf => by have := hF b hf; omega⟩
theorem Mv.setCell (w : World) (p : Addr) (u : Value) : Mv (fun b => b = p.block) w (w.setCell p u) := ⟨rfl, rfl, rfl, by simp [World.setCell], fun b _ hF => Below.heap_setCell w p u b hF⟩
theorem Mv.alloc (w : World) (o : Obj) (F : Nat → Prop) : Mv F w (w.alloc o) := Mv.of_new ((Below.refl _ _).alloc (Nat.le_refl _) o) F
theorem Mv.drew (h : Mv F w w') : Mv F w w'.drew := ⟨h.os, h.tape, h.output, h.size, h.block⟩
theorem Blk.mv {g : Nat} {t : TypeId} {cs : Array Value} (h : Blk w g t cs) (hm : Mv F w w') (hg : ¬ F g) : Blk w' g t cs := (hm.block g h.lt hg).trans h
theorem RB.mv {B n c : Nat} {A : Option Addr} {l : List UInt8} (h : RB w B A n c l) (hm : Mv F w w') (hB : B ≤ w.heap.size) (hF : ∀ b, b < B → ¬ F b) : RB w' B A n c l :=
  h.keep fun p hp => World.cell?_of_block (hm.block p.block (Nat.lt_of_lt_of_le hp hB) (hF _ hp))
end
/-- A world that came of w0 by touching blocks of G alone. -/
structure Wd (G : Nat → Prop) (w0 : World) where
  val : World
  ok : Mv G w0 val
instance instWd (G : Nat → Prop) (w0 : World) : Nonempty (Wd G w0) := ⟨⟨w0, Mv.refl _ _⟩⟩
section
variable {P : Program} {Q : Exit → Act → World → Prop} {md : Region.Mode} {t : Nat} {G : Nat → Prop}
/-- A region that draws its order: the class of its worlds is 'touched in G alone'; behind its last operation t nothing is asked. -/
theorem region_mv {id : Nat} {l : List Oper} {a : Act} {w : World} (t : Nat) (G : Nat → Prop) (hm : P.follows .mixedOrders = true)
    (h : wpAnyL P .any l.toArray (NoPanic Q) t (fun x => ∃ v : Wd G w, x = v.val) l.length (Array.replicate l.length false) a w.drew) : (Code.region id l.toArray true).wp P Q a w :=
  wp_region_noPanic (wp_region_any hm (by simpa using wpAny_of_L _ _ _ _ h))
theorem phase_mv {l : List Oper} (hsel : Region.noSelect l.toArray = true) (fuel : Nat) {w0 w : World} (hb : Mv G w0 w) (σ : List Nat) {n : Nat} {listed : Array Bool} {a : Act} (hn : n = σ.length + fuel) (hok : okPhaseL md l t listed σ = true)
    (h : wpQuiet P l.toArray (fun x => ∃ v : Wd G w0, x = v.val) (fun a' => wpAnyL P md l.toArray (NoPanic Q) t (fun x => ∃ v : Wd G w0, x = v.val) fuel (after listed σ) a' w) (picks l σ) a) :
    wpAnyL P md l.toArray (NoPanic Q) t (fun x => ∃ v : Wd G w0, x = v.val) n listed a w := phaseL_of hsel (fun _ _ _ _ _ h => h) fuel w ⟨⟨w, hb⟩, rfl⟩ σ listed a hn hok h
theorem behind_mv {l : List Oper} {fuel : Nat} {listed : Array Bool} {a : Act} {w0 w : World} (hb : Mv G w0 w)
    (h : wpAnyL P md l.toArray Q t (fun x => ∃ v : Wd G w0, x = v.val) fuel listed a w) : Qn (fun a' w' => BehindL P md l Q t (fun x => ∃ v : Wd G w0, x = v.val) fuel listed a' w') Q .normal a w :=
  ⟨_, ⟨⟨w, hb⟩, rfl⟩, fun _ hx => hx, h⟩
theorem phase_endL {S : World → Prop} {l : List Oper} {listed : Array Bool} {a : Act} {w : World} (hr : Region.ready md l.toArray listed = []) (h : Q .normal a w) : wpAnyL P md l.toArray (NoPanic Q) t S 0 listed a w := ⟨hr, NoPanic.normal h⟩
theorem Blk.four_mv {w0 : World} {g : Nat} {ty : TypeId} {a b c d : Value} (h : Blk w0 g ty #[a, b, c, d]) (hg : ¬ G g) : ∀ v : Wd G w0, v.val.cell? ⟨g, 0, none⟩ = some a ∧ v.val.cell? ⟨g, 1, none⟩ = some b ∧ v.val.cell? ⟨g, 2, none⟩ = some c ∧ v.val.cell? ⟨g, 3, none⟩ = some d := fun v => by
  have k := h.mv v.ok hg
  exact ⟨k.cell 0, k.cell 1, k.cell 2, k.cell 3⟩
theorem Blk.three_mv {w0 : World} {g : Nat} {ty : TypeId} {a b c : Value} (h : Blk w0 g ty #[a, b, c]) (hg : ¬ G g) : ∀ v : Wd G w0, v.val.cell? ⟨g, 0, none⟩ = some a ∧ v.val.cell? ⟨g, 1, none⟩ = some b ∧ v.val.cell? ⟨g, 2, none⟩ = some c := fun v => by
  have k := h.mv v.ok hg
  exact ⟨k.cell 0, k.cell 1, k.cell 2⟩
theorem cell_mv {w0 : World} {a : Addr} {x : Value} (h : w0.cell? a = some x) (hg : ¬ G a.block) : ∀ v : Wd G w0, v.val.cell? a = some x := fun v =>
  (World.cell?_of_block (v.ok.block a.block (World.block_lt_of_cell? w0 _ h) hg)).trans h
end
/-- The slice reads as the bytes l; its cells lie in a block of F. -/
structure RBp (w : World) (F : Nat → Prop) (A : Option Addr) (n c : Nat) (l : List UInt8) : Prop where
  len : l.length = n
  le : n ≤ c
  cap : c ≤ 9223372036854775807
  nil : A = none → n = 0 ∧ c = 0
  at_ : 0 < n → ∃ b o, A = some ⟨b, o, none⟩ ∧ F b ∧ b < w.heap.size ∧ ∀ i, i < n → w.cell? ⟨b, o + i, none⟩ = some (.int .u8 ((l.getD i 0).toNat : Int))
structure RVp (w : World) (F : Nat → Prop) (size : Nat) (A : Option Addr) (n c : Nat) (xs : List Value) : Prop where
  len : xs.length = n * size
  le : n ≤ c
  cap : c ≤ 9223372036854775807
  nil : A = none → n = 0 ∧ c = 0
  at_ : 0 < n → ∃ b o, A = some ⟨b, o, none⟩ ∧ F b ∧ b < w.heap.size ∧ ∀ j u, xs[j]? = some u → w.cell? ⟨b, o + j, none⟩ = some u
section
variable {F G : Nat → Prop} {w w' : World} {A : Option Addr} {n c size : Nat} {l : List UInt8} {xs : List Value}
theorem RBp.none_ (w : World) (F : Nat → Prop) : RBp w F none 0 0 [] := ⟨rfl, Nat.le_refl _, by omega, fun _ => ⟨rfl, rfl⟩, fun h => absurd h (by omega)⟩
theorem RVp.none_ (w : World) (F : Nat → Prop) (size : Nat) : RVp w F size none 0 0 [] := ⟨by simp, Nat.le_refl _, by omega, fun _ => ⟨rfl, rfl⟩, fun h => absurd h (by omega)⟩
theorem RBp.rb (h : RBp w F A n c l) : RB w w.heap.size A n c l := ⟨h.len, h.le, h.cap, h.nil, fun hn => by
  obtain ⟨b, o, e, _, hb, hc⟩ := h.at_ hn
  exact ⟨b, o, e, hb, hc⟩⟩
theorem RVp.rv (h : RVp w F size A n c xs) : RV w w.heap.size size A n c xs := ⟨h.len, h.le, h.cap, h.nil, fun hn => by
  obtain ⟨b, o, e, _, hb, hc⟩ := h.at_ hn
  exact ⟨b, o, e, hb, hc⟩⟩
theorem RBp.mono (h : RBp w F A n c l) (hi : ∀ b, b < w.heap.size → F b → G b) : RBp w G A n c l := ⟨h.len, h.le, h.cap, h.nil, fun hn => by
  obtain ⟨b, o, e, hF, hb, hc⟩ := h.at_ hn
  exact ⟨b, o, e, hi b hb hF, hb, hc⟩⟩
theorem RVp.mono (h : RVp w F size A n c xs) (hi : ∀ b, b < w.heap.size → F b → G b) : RVp w G size A n c xs := ⟨h.len, h.le, h.cap, h.nil, fun hn => by
  obtain ⟨b, o, e, hF, hb, hc⟩ := h.at_ hn
  exact ⟨b, o, e, hi b hb hF, hb, hc⟩⟩
theorem RBp.mv (h : RBp w F A n c l) (hm : Mv G w w') (hd : ∀ b, b < w.heap.size → F b → ¬ G b) : RBp w' F A n c l := ⟨h.len, h.le, h.cap, h.nil, fun hn => by
  obtain ⟨b, o, e, hF, hb, hc⟩ := h.at_ hn
  exact ⟨b, o, e, hF, Nat.lt_of_lt_of_le hb hm.size, fun i hi => (World.cell?_of_block (hm.block b hb (hd b hb hF))).trans (hc i hi)⟩⟩
theorem RVp.mv (h : RVp w F size A n c xs) (hm : Mv G w w') (hd : ∀ b, b < w.heap.size → F b → ¬ G b) : RVp w' F size A n c xs := ⟨h.len, h.le, h.cap, h.nil, fun hn => by
  obtain ⟨b, o, e, hF, hb, hc⟩ := h.at_ hn
  exact ⟨b, o, e, hF, Nat.lt_of_lt_of_le hb hm.size, fun j u hu => (World.cell?_of_block (hm.block b hb (hd b hb hF))).trans (hc j u hu)⟩⟩
theorem RBp.below (h : RBp w F A n c l) (hb : Below w.heap.size w w') : RBp w' F A n c l := h.mv (Mv.of_new hb fun _ => False) fun _ _ _ h => h
theorem RVp.below (h : RVp w F size A n c xs) (hb : Below w.heap.size w w') : RVp w' F size A n c xs := h.mv (Mv.of_new hb fun _ => False) fun _ _ _ h => h
theorem OB.rbp {base : Nat} (h : OB w base A n c l) (hF : ∀ k, (Value.slice A n c).ownBlock = some k → F k) : RBp w F A n c l := by
  have hr := h.rb
  refine ⟨hr.len, hr.le, hr.cap, hr.nil, fun hn => ?_⟩
  obtain ⟨b, o, rfl, hb, hc⟩ := hr.at_ hn
  obtain ⟨g, e, _, _⟩ := h.head hn
  exact ⟨b, o, rfl, hF b (by injection e with e; injection e with e1 _; simp [Value.ownBlock]), hb, hc⟩
theorem OV.rvp {base e : Nat} (h : OV w base e size A n c xs) (hF : ∀ k, (Value.slice A n c).ownBlock = some k → F k) : RVp w F size A n c xs := by
  have hr := h.rv
  refine ⟨hr.len, hr.le, hr.cap, hr.nil, fun hn => ?_⟩
  obtain ⟨b, o, rfl, hb, hc⟩ := hr.at_ hn
  exact ⟨b, o, rfl, hF b (by simp [Value.ownBlock]), hb, hc⟩
/-- 'x[:k]', whatever its capacity becomes. -/
theorem RVp.take (h : RVp w F size A n c xs) {k : Nat} (hk : k ≤ n) {c' : Nat} (hc' : c' ≤ c) (hkc : k ≤ c') : RVp w F size A k c' (xs.take (k * size)) := by
  have hm := Nat.mul_le_mul_right size hk
  refine ⟨by rw [List.length_take, h.len]; omega, hkc, Nat.le_trans hc' h.cap, fun e => ?_, fun hn => ?_⟩
  · have := h.nil e; omega
  · obtain ⟨b, o, rfl, hF, hb, hc⟩ := h.at_ (by omega)
    refine ⟨b, o, rfl, hF, hb, fun j u hu => ?_⟩
    rw [List.getElem?_take] at hu
    split at hu
    · exact hc j u hu
    · cases hu
/-- 'x[k:]' -/
theorem RVp.drop (h : RVp w F size A n c xs) {k : Nat} (hk : k ≤ n) : RVp w F size (if c = k then A else A.map (·.add (k * size))) (n - k) (c - k) (xs.drop (k * size)) := by
  refine ⟨by rw [List.length_drop, h.len, Nat.sub_mul], by have := h.le; omega, by have := h.cap; omega, fun e => ?_, fun hn => ?_⟩
  · have hA : A = none := by
      split at e
      · exact e
      · simpa using e
    have := h.nil hA; omega
  · obtain ⟨b, o, rfl, hF, hb, hc⟩ := h.at_ (by omega)
    rw [if_neg (by have := h.le; omega)]
    refine ⟨b, o + k * size, by simp [Addr.add_lit], hF, hb, fun j u hu => ?_⟩
    rw [Nat.add_assoc]
    exact hc _ u (by rw [← hu, List.getElem?_drop])
end
section
variable {P : Program} {T E size bytes : Nat} {z : Value}
theorem run_sizeOf (ht : ET P T E size bytes z) (w : World) : (sizeOf E).run P w = .ok size w := by
  obtain ⟨i, hi, _, hs, _⟩ := ht.info
  simp [sizeOf, typeInfo, hi, hs]
theorem et_elem (ht : ET P T E size bytes z) : P.elem T = E := by
  have := ht.sl
  simp [Program.elem, this]
/-- 'x[k:]' -/
theorem run_cut_rest (ht : ET P T E size bytes z) (A : Option Addr) (n c k : Nat) (hk : k ≤ n) (kd : IntKind) (w : World) :
    (Instr.slice T (.slice A n c) (some (.int kd (k : Int))) none none).run P w = .ok (.slice (if c = k then A else A.map (·.add (k * size))) (n - k) (c - k)) w := by
  have hT : P.underlying T = some (.slice (P.elem T)) := by rw [et_elem ht]; exact ht.sl
  rw [run_slice_l w T A n c hT kd (k : Int) (by omega) (by omega), et_elem ht, run_sizeOf ht]
  simp [Result.andThen, sliced]
/-- 'x[:k:k]' -/
theorem run_cut_full (ht : ET P T E size bytes z) (A : Option Addr) (n c k : Nat) (hk : k ≤ c) (kd kd' : IntKind) (w : World) :
    (Instr.slice T (.slice A n c) none (some (.int kd (k : Int))) (some (.int kd' (k : Int)))).run P w = .ok (.slice A k k) w := by
  have hT : P.underlying T = some (.slice (P.elem T)) := by rw [et_elem ht]; exact ht.sl
  rw [run_slice_hm w T A n c hT kd kd' (k : Int) (k : Int) (by omega) (by omega) (by omega), et_elem ht, run_sizeOf ht]
  cases A <;> simp [Result.andThen, sliced, Addr.add]
/-- 'x[:k]' -/
theorem run_cut_head (ht : ET P T E size bytes z) (A : Option Addr) (n c k : Nat) (hk : k ≤ c) (kd : IntKind) (w : World) :
    (Instr.slice T (.slice A n c) none (some (.int kd (k : Int))) none).run P w = .ok (.slice A k c) w := by
  have hT : P.underlying T = some (.slice (P.elem T)) := by rw [et_elem ht]; exact ht.sl
  rw [run_slice_h w T A n c hT kd (k : Int) (by omega) (by omega), et_elem ht, run_sizeOf ht]
  cases A <;> simp [Result.andThen, sliced, Addr.add]
end
end Go.Proofs.YtkddillihhjghaaGreat
/-
  A dictionary in memory, with its footprint.
  Conditions: none.
-/
namespace Go.Proofs.YtkddillihhjghaaGreat
set_option linter.unusedVariables false
set_option linter.unusedSimpArgs false
open Go.RowKit
theorem eten : ET Tryz.prog 22 68 11 104 (.agg #[.int .i64 0, .int .i64 0, .string ⟨#[]⟩, .int .i64 0, .int .i64 0, .bool false, .bool false, .int .i64 0, .int .i64 0, .int .i64 0, .slice none 0 0]) := ⟨Tryz.underlying22, info_parts (by kernel_rfl), rfl, by decide⟩
theorem etbs : ET Tryz.prog 69 49 1 24 (.slice none 0 0) := ⟨Tryz.underlying69, info_parts (by kernel_rfl), rfl, by decide⟩
/-- The cells of an entry; its bytes in blocks of F. -/
def EnP (w : World) (F : Nat → Prop) (e : Ent.En) (cs : List Value) : Prop := ∃ A n c, cs = enL e A n c ∧ RBp w F A n c e.dflt
/-- The cell of some bytes. -/
def ByP (w : World) (F : Nat → Prop) (b : List UInt8) (cs : List Value) : Prop := ∃ A n c, cs = [.slice A n c] ∧ RBp w F A n c b
section
variable {F G : Nat → Prop} {w w' : World} {e : Ent.En} {b : List UInt8} {cs : List Value}
theorem EnP.mv (h : EnP w F e cs) (hm : Mv G w w') (hd : ∀ b, b < w.heap.size → F b → ¬ G b) : EnP w' F e cs := by
  obtain ⟨A, n, c, h1, h2⟩ := h
  exact ⟨A, n, c, h1, h2.mv hm hd⟩
theorem EnP.mono (h : EnP w F e cs) (hi : ∀ b, b < w.heap.size → F b → G b) : EnP w G e cs := by
  obtain ⟨A, n, c, h1, h2⟩ := h
  exact ⟨A, n, c, h1, h2.mono hi⟩
theorem ByP.mv (h : ByP w F b cs) (hm : Mv G w w') (hd : ∀ b, b < w.heap.size → F b → ¬ G b) : ByP w' F b cs := by
  obtain ⟨A, n, c, h1, h2⟩ := h
  exact ⟨A, n, c, h1, h2.mv hm hd⟩
theorem ByP.mono (h : ByP w F b cs) (hi : ∀ b, b < w.heap.size → F b → G b) : ByP w G b cs := by
  obtain ⟨A, n, c, h1, h2⟩ := h
  exact ⟨A, n, c, h1, h2.mono hi⟩
end
/-- Blocks of F but two. -/
def Fx (F : Nat → Prop) (g gv : Nat) : Nat → Prop := fun b => F b ∧ b ≠ g ∧ b ≠ gv
/-- A dictionary at block g, its values' row at block gv; t: the type of its block. -/
structure DRt (t : TypeId) (w : World) (F : Nat → Prop) (g gv : Nat) (lA : Option Addr) (lc : Nat) (vA : Option Addr) (vc : Nat) (xs vs : List Value) (D : Dc.Dic) : Prop where
  fg : F g
  ne : g ≠ gv
  blk : Blk w g t #[.slice lA D.l.length lc, .slice vA D.l.length vc]
  row : RVp w (Fx F g gv) 11 lA D.l.length lc xs
  rows : Rows (EnP w (Fx F g gv)) 11 D.l xs
  own : OV w 0 49 1 vA D.l.length vc vs
  at_ : ∀ k, (Value.slice vA D.l.length vc).ownBlock = some k → k = gv ∧ F gv
  vals : Rows (ByP w (Fx F g gv)) 1 D.v vs
  len : D.v.length = D.l.length
  ord : Dc.Ord D.l
  few : D.l.length ≤ 96
  right : ∀ e ∈ D.l, Ent.rightS e = 0
section
variable {t : TypeId} {F G : Nat → Prop} {w w' : World} {g gv lc vc : Nat} {lA vA : Option Addr} {xs vs : List Value} {D : Dc.Dic}
theorem DRt.mv (h : DRt t w F g gv lA lc vA vc xs vs D) (hm : Mv G w w') (hd : ∀ b, b < w.heap.size → F b → ¬ G b) : DRt t w' F g gv lA lc vA vc xs vs D :=
  have hx : ∀ b, b < w.heap.size → Fx F g gv b → ¬ G b := fun b hb hf => hd b hb hf.1
  { fg := h.fg, ne := h.ne, blk := h.blk.mv hm (hd g h.blk.lt h.fg), row := h.row.mv hm hx, rows := h.rows.imp fun _ _ k => k.mv hm hx
    own := by
      refine ⟨h.own.1, ?_⟩
      rcases h.own.2 with h2 | ⟨k, cap, cur, hv, hg, hh, r⟩
      · exact .inl h2
      · have hk := h.at_ k (by rw [hv]; rfl)
        have hlt : k < w.heap.size := (Array.getElem?_eq_some_iff.1 hh).1
        exact .inr ⟨k, cap, cur, hv, hg, (hm.block k hlt (hd k hlt (by rw [hk.1]; exact hk.2))).trans hh, r⟩
    at_ := h.at_, vals := h.vals.imp fun _ _ k => k.mv hm hx, len := h.len, ord := h.ord, few := h.few, right := h.right }
theorem DRt.below (h : DRt t w F g gv lA lc vA vc xs vs D) (hb : Below w.heap.size w w') : DRt t w' F g gv lA lc vA vc xs vs D := h.mv (Mv.of_new hb fun _ => False) fun _ _ _ h => h
theorem DRt.mono (h : DRt t w F g gv lA lc vA vc xs vs D) (hi : ∀ b, b < w.heap.size → F b → G b) : DRt t w G g gv lA lc vA vc xs vs D :=
  have hx : ∀ b, b < w.heap.size → Fx F g gv b → Fx G g gv b := fun b hb hf => ⟨hi b hb hf.1, hf.2⟩
  { fg := hi g h.blk.lt h.fg, ne := h.ne, blk := h.blk, row := h.row.mono hx, rows := h.rows.imp fun _ _ k => k.mono hx, own := h.own
    at_ := fun k hk => ⟨(h.at_ k hk).1, hi gv (by have := (h.own.lt k hk).2; rw [(h.at_ k hk).1] at this; exact this) (h.at_ k hk).2⟩
    vals := h.vals.imp fun _ _ k => k.mono hx, len := h.len, ord := h.ord, few := h.few, right := h.right }
theorem Rows.set_one {α : Type} {R : α → List Value → Prop} {fs : List α} {xs : List Value} (h : Rows R 1 fs xs) {k : Nat} {f : α} {u : Value} (hk : k < fs.length) (hf : R f [u]) : Rows R 1 (fs.set k f) (xs.set k u) := by
  have hl := h.len
  refine ⟨by rw [List.length_set, List.length_set]; exact hl, fun i f' hi => ?_⟩
  rw [List.getElem?_set] at hi
  split at hi
  · rename_i e
    subst e
    first | (rw [if_pos hk] at hi) | skip
    injection hi with hi
    subst hi
    have : ((xs.set k u).drop (k * 1)).take 1 = [u] := by
      have hlt : k < (xs.set k u).length := by rw [List.length_set]; omega
      rw [Nat.mul_one, List.drop_eq_getElem_cons hlt, List.take_succ_cons, List.take_zero, List.getElem_set_self]
    rw [this]
    exact hf
  · rename_i e
    have h1 := h.2 i f' hi
    have : ((xs.set k u).drop (i * 1)).take 1 = (xs.drop (i * 1)).take 1 := by
      apply List.ext_getElem?
      intro j
      rw [List.getElem?_take, List.getElem?_take]
      split
      · rw [List.getElem?_drop, List.getElem?_drop, List.getElem?_set_ne (by omega)]
      · rfl
    rw [this]
    exact h1
/-- A value is set: in place, with bytes that were made. -/
theorem DRt.put {w1 : World} {k n c : Nat} {A : Option Addr} {b : List UInt8} (h : DRt t w F g gv lA lc vA vc xs vs D) (hk : k < D.l.length) (hb : Below w.heap.size w w1) (ho : OB w1 w.heap.size A n c b) :
    DRt t (w1.setCell ⟨gv, k, none⟩ (.slice A n c)) (fun q => F q ∨ (w.heap.size ≤ q ∧ q < w1.heap.size)) g gv lA lc vA vc xs (vs.set k (.slice A n c)) ⟨D.l, D.v.set k b⟩ := by
  have hA : ∃ q, vA = some ⟨q, 0, none⟩ ∧ q < w.heap.size := by
    obtain ⟨q, e, _, hq⟩ := h.own.head (by omega)
    exact ⟨q, e, hq⟩
  obtain ⟨q, rfl, hq⟩ := hA
  obtain ⟨rfl, hFq⟩ := h.at_ q rfl
  have hgl := h.blk.lt
  have h1 := (h.below hb).mono (G := fun q => F q ∨ (w.heap.size ≤ q ∧ q < w1.heap.size)) fun _ _ hf => .inl hf
  have hm : Mv (fun b => b = q) w1 (w1.setCell ⟨q, k, none⟩ (.slice A n c)) := Mv.setCell w1 ⟨q, k, none⟩ _
  have hx : ∀ b, b < w1.heap.size → Fx (fun q => F q ∨ (w.heap.size ≤ q ∧ q < w1.heap.size)) g q b → ¬ b = q := fun b _ hf => hf.2.2
  refine { fg := h1.fg, ne := h1.ne, blk := h1.blk.mv hm h1.ne, row := h1.row.mv hm hx, rows := h1.rows.imp fun _ _ k => k.mv hm hx, own := (h1.own.set k (.slice A n c)).1, at_ := h1.at_, vals := ?_, len := by rw [List.length_set]; exact h1.len, ord := h1.ord, few := h1.few, right := h1.right }
  refine Rows.set_one (h1.vals.imp fun _ _ k => k.mv hm hx) (by rw [h.len]; exact hk) ⟨A, n, c, rfl, ?_⟩
  have hr : RBp w1 (Fx (fun q => F q ∨ (w.heap.size ≤ q ∧ q < w1.heap.size)) g q) A n c b := ho.rbp fun j hj => by
    have h5 := ho.lt j hj
    exact ⟨.inr h5, by omega, by omega⟩
  exact hr.mv hm hx
theorem DRt.two (h : DRt t w F g gv lA lc vA vc xs vs D) : w.cell? ⟨g, 0, none⟩ = some (.slice lA D.l.length lc) ∧ w.cell? ⟨g, 1, none⟩ = some (.slice vA D.l.length vc) := ⟨h.blk.cell 0, h.blk.cell 1⟩
theorem DRt.lcap (h : DRt t w F g gv lA lc vA vc xs vs D) : D.l.length ≤ lc ∧ lc ≤ 9223372036854775807 := ⟨h.row.le, h.row.cap⟩
/-- An entry's cells. -/
theorem DRt.entry (h : DRt t w F g gv lA lc vA vc xs vs D) {i : Nat} (hi : i < D.l.length) : ∃ b o A n c, lA = some ⟨b, o, none⟩ ∧ b < w.heap.size ∧ RB w w.heap.size A n c (D.l.getD i Dc.en0).dflt ∧
    ∀ j u, (enL (D.l.getD i Dc.en0) A n c)[j]? = some u → w.cell? ⟨b, o + i * 11 + j, none⟩ = some u := by
  obtain ⟨b, o, rfl, hF, hb, hc⟩ := h.row.at_ (by omega)
  have hf : D.l[i]? = some (D.l.getD i Dc.en0) := by simp [List.getD, List.getElem?_eq_getElem hi]
  obtain ⟨A, n, c, e, hr⟩ := h.rows.2 i _ hf
  refine ⟨b, o, A, n, c, rfl, hb, hr.rb, fun j u hu => ?_⟩
  rw [← e, List.getElem?_take] at hu
  split at hu
  · rw [List.getElem?_drop] at hu
    rw [Nat.add_assoc]
    exact hc _ u hu
  · cases hu
/-- A value's cell. -/
theorem DRt.value (h : DRt t w F g gv lA lc vA vc xs vs D) {i : Nat} (hi : i < D.l.length) : ∃ A n c, vA = some ⟨gv, 0, none⟩ ∧ F gv ∧ gv < w.heap.size ∧ RB w w.heap.size A n c (D.v.getD i []) ∧ w.cell? ⟨gv, i, none⟩ = some (.slice A n c) ∧ w.frozen? ⟨gv, i, none⟩ = false := by
  obtain ⟨q, rfl, _, hq⟩ := h.own.head (by omega)
  obtain ⟨e1, e2⟩ := h.at_ q (by rfl)
  subst e1
  have hi' : i < D.v.length := by rw [h.len]; exact hi
  have hf : D.v[i]? = some (D.v.getD i []) := by simp [List.getD, List.getElem?_eq_getElem hi']
  obtain ⟨A, n, c, e, hr⟩ := h.vals.2 i _ hf
  refine ⟨A, n, c, rfl, e2, hq, hr.rb, ?_, h.own.free i⟩
  obtain ⟨b, o, e3, _, hc⟩ := h.own.rv.at_ (by omega)
  injection e3 with e3
  injection e3 with e3 e4
  subst e3 e4
  have hu : vs[i]? = some (.slice A n c) := by
    have h0 : ((vs.drop (i * 1)).take 1)[0]? = some (Value.slice A n c) := by rw [e]; rfl
    rw [List.getElem?_take, List.getElem?_drop] at h0
    simpa using h0
  have := hc i _ hu
  rwa [Nat.zero_add] at this
end
end Go.Proofs.YtkddillihhjghaaGreat
/-
  Walks: Before of layer 14, and its reference.
  Conditions: none.
-/
namespace Go.Proofs.YtkddillihhjghaaGreat
set_option linter.unusedVariables false
set_option linter.unusedSimpArgs false
open Go.RowKit
set_option maxRecDepth 100000 in
set_option maxHeartbeats 4000000 in
theorem Before_any (e e' : Ent.En) (A A' : Option Addr) (n c n' c' : Nat) (w : World) : Calls Tryz.prog 25 #[enV e A n c, enV e' A' n' c'] w fun x w' => x = .returned (.bool (Ent.befB e e')) ∧ Below w.heap.size w w' := by
  obtain ⟨ix, sb, nm, ty, ac, mp, st, mx, lo, hi, df⟩ := e
  unfold enV
  dsimp only
  obtain ⟨ix', sb', nm', ty', ac', mp', st', mx', lo', hi', df'⟩ := e'
  dsimp only
  by_cases h1 : ix = ix'
  · subst h1
    have hv : Ent.befB ⟨ix, sb, nm, ty, ac, mp, st, mx, lo, hi, df⟩ ⟨ix, sb', nm', ty', ac', mp', st', mx', lo', hi', df'⟩ = decide (sb < sb') := if_pos rfl
    rw [hv]
    have e1 : (ix != ix) = false := by simp
    have e2 : (ix == ix) = true := by simp
    have e3 : decide (ix < ix) = false := decide_eq_false (by omega)
    clear hv
    by_cases h2 : sb < sb'
    all_goals
      go_enter Tryz.func25, Tryz.ntmps25
      go_wp2_with fail
      go_ret
      exact ⟨ret_bool (by simp [h2] <;> omega), alloc_two _ _ _⟩
  · have hv : Ent.befB ⟨ix, sb, nm, ty, ac, mp, st, mx, lo, hi, df⟩ ⟨ix', sb', nm', ty', ac', mp', st', mx', lo', hi', df'⟩ = decide (ix < ix') := if_neg h1
    rw [hv]
    have e1 : (ix != ix') = true := by simpa using h1
    have e2 : (ix == ix') = false := beq_false_of_ne h1
    clear hv
    by_cases h2 : ix < ix'
    · have e3 : decide (ix < ix') = true := decide_eq_true h2
      clear h1
      go_enter Tryz.func25, Tryz.ntmps25
      go_wp2_with fail
      go_ret
      exact ⟨ret_bool (by simp [h2]), alloc_two _ _ _⟩
    · have e3 : decide (ix < ix') = false := decide_eq_false h2
      clear h1
      go_enter Tryz.func25, Tryz.ntmps25
      go_wp2_with fail
      go_ret
      exact ⟨ret_bool (by simp [h2]), alloc_two _ _ _⟩
set_option maxRecDepth 100000 in
set_option maxHeartbeats 4000000 in
theorem RBefore_any (e e' : Ent.En) (A A' : Option Addr) (n c n' c' : Nat) (w : World) : Calls Tryz.prog 29 #[enV e A n c, enV e' A' n' c'] w fun x w' => x = .returned (.bool (Ent.befB e e')) ∧ Below w.heap.size w w' := by
  obtain ⟨ix, sb, nm, ty, ac, mp, st, mx, lo, hi, df⟩ := e
  unfold enV
  dsimp only
  obtain ⟨ix', sb', nm', ty', ac', mp', st', mx', lo', hi', df'⟩ := e'
  dsimp only
  by_cases h1 : ix = ix'
  · subst h1
    have hv : Ent.befB ⟨ix, sb, nm, ty, ac, mp, st, mx, lo, hi, df⟩ ⟨ix, sb', nm', ty', ac', mp', st', mx', lo', hi', df'⟩ = decide (sb < sb') := if_pos rfl
    rw [hv]
    have e1 : (ix != ix) = false := by simp
    have e2 : (ix == ix) = true := by simp
    have e3 : decide (ix < ix) = false := decide_eq_false (by omega)
    clear hv
    by_cases h2 : sb < sb'
    all_goals
      go_enter Tryz.func29, Tryz.ntmps29
      go_wp2_with fail
      go_ret
      exact ⟨ret_bool (by simp [h2] <;> omega), alloc_two _ _ _⟩
  · have hv : Ent.befB ⟨ix, sb, nm, ty, ac, mp, st, mx, lo, hi, df⟩ ⟨ix', sb', nm', ty', ac', mp', st', mx', lo', hi', df'⟩ = decide (ix < ix') := if_neg h1
    rw [hv]
    have e1 : (ix != ix') = true := by simpa using h1
    have e2 : (ix == ix') = false := beq_false_of_ne h1
    clear hv
    by_cases h2 : ix < ix'
    · have e3 : decide (ix < ix') = true := decide_eq_true h2
      clear h1
      go_enter Tryz.func29, Tryz.ntmps29
      go_wp2_with fail
      go_ret
      exact ⟨ret_bool (by simp [h2]), alloc_two _ _ _⟩
    · have e3 : decide (ix < ix') = false := decide_eq_false h2
      clear h1
      go_enter Tryz.func29, Tryz.ntmps29
      go_wp2_with fail
      go_ret
      exact ⟨ret_bool (by simp [h2]), alloc_two _ _ _⟩
end Go.Proofs.YtkddillihhjghaaGreat
/-
  Walks: the small rules of layer 14.
  Conditions: none.
-/
namespace Go.Proofs.YtkddillihhjghaaGreat
set_option linter.unusedVariables false
set_option linter.unusedSimpArgs false
open Go.RowKit
set_option maxRecDepth 100000 in
set_option maxHeartbeats 4000000 in
theorem flags_any (e : Ent.En) (A : Option Addr) (n c : Nat) (w : World) : Calls Tryz.prog 47 #[enV e A n c] w fun x w' => x = .returned (.bool (Ent.flagsB e)) ∧ Below w.heap.size w w' := by
  obtain ⟨ix, sb, nm, ty, ac, mp, st, mx, lo, hi, df⟩ := e
  unfold enV
  dsimp only
  by_cases h1 : ac = 1
  · subst h1
    cases mp <;> cases st
    all_goals
      go_enter Tryz.func47, Tryz.ntmps47
      go_wp2_with fail
      go_ret
      exact ⟨rfl, alloc_one _ _⟩
  by_cases h2 : ac = 2
  · subst h2
    cases st
    all_goals
      go_enter Tryz.func47, Tryz.ntmps47
      go_wp2_with fail
      go_ret
      exact ⟨rfl, alloc_one _ _⟩
  by_cases h3 : ac = 3
  · subst h3
    go_enter Tryz.func47, Tryz.ntmps47
    go_wp2_with fail
    go_ret
    exact ⟨rfl, alloc_one _ _⟩
  by_cases h4 : ac = 4
  · subst h4
    go_enter Tryz.func47, Tryz.ntmps47
    go_wp2_with fail
    go_ret
    exact ⟨rfl, alloc_one _ _⟩
  have e1 : (ac == 1) = false := beq_false_of_ne h1
  have e2 : (ac == 2) = false := beq_false_of_ne h2
  have e3 : (ac == 3) = false := beq_false_of_ne h3
  have e4 : (ac == 4) = false := beq_false_of_ne h4
  have hv : Ent.flagsB ⟨ix, sb, nm, ty, ac, mp, st, mx, lo, hi, df⟩ = false := by unfold Ent.flagsB; rw [if_neg h1, if_neg h2]; simp [h3, h4]
  rw [hv]
  clear hv h1 h2 h3 h4
  go_enter Tryz.func47, Tryz.ntmps47
  go_wp2_with fail
  go_ret
  exact ⟨rfl, alloc_one _ _⟩
set_option maxRecDepth 100000 in
set_option maxHeartbeats 4000000 in
theorem numbered_any (e : Ent.En) (A : Option Addr) (n c : Nat) (l h : Int) (w : World) : Calls Tryz.prog 48 #[enV e A n c, .int .i64 l, .int .i64 h] w fun x w' => x = .returned (.bool (Ent.numberedB e l h)) ∧ Below w.heap.size w w' := by
  obtain ⟨ix, sb, nm, ty, ac, mp, st, mx, lo, hi, df⟩ := e
  unfold enV
  dsimp only
  by_cases h1 : mx = 0
  · by_cases h2 : l ≤ lo
    · by_cases h3 : lo ≤ hi
      · by_cases h4 : hi ≤ h
        all_goals
          go_enter Tryz.func48, Tryz.ntmps48
          go_wp2_with fail
          go_ret
          exact ⟨ret_bool (by rw [Bool.eq_iff_iff]; simp [Ent.numberedB] <;> omega), alloc_one _ _⟩
      · go_enter Tryz.func48, Tryz.ntmps48
        go_wp2_with fail
        go_ret
        exact ⟨ret_bool (by rw [Bool.eq_iff_iff]; simp [Ent.numberedB] <;> omega), alloc_one _ _⟩
    · go_enter Tryz.func48, Tryz.ntmps48
      go_wp2_with fail
      go_ret
      exact ⟨ret_bool (by rw [Bool.eq_iff_iff]; simp [Ent.numberedB] <;> omega), alloc_one _ _⟩
  · have e1 : (mx == 0) = false := beq_false_of_ne h1
    go_enter Tryz.func48, Tryz.ntmps48
    go_wp2_with fail
    go_ret
    exact ⟨ret_bool (by rw [Bool.eq_iff_iff]; simp [Ent.numberedB] <;> omega), alloc_one _ _⟩
set_option maxRecDepth 100000 in
set_option maxHeartbeats 4000000 in
theorem sized_any (e : Ent.En) (A : Option Addr) (n c : Nat) (w : World) : Calls Tryz.prog 49 #[enV e A n c] w fun x w' => x = .returned (.bool (Ent.sizedB e)) ∧ Below w.heap.size w w' := by
  obtain ⟨ix, sb, nm, ty, ac, mp, st, mx, lo, hi, df⟩ := e
  unfold enV
  dsimp only
  by_cases h1 : lo = 0
  · by_cases h2 : hi = 0
    · subst h1 h2
      by_cases h3 : 1 ≤ mx
      · by_cases h4 : mx ≤ 256
        · cases mp
          all_goals
            go_enter Tryz.func49, Tryz.ntmps49
            go_wp2_with fail
            go_ret
            exact ⟨ret_bool (by rw [Bool.eq_iff_iff]; simp [Ent.sizedB] <;> omega), alloc_one _ _⟩
        · go_enter Tryz.func49, Tryz.ntmps49
          go_wp2_with fail
          go_ret
          exact ⟨ret_bool (by rw [Bool.eq_iff_iff]; simp [Ent.sizedB] <;> omega), alloc_one _ _⟩
      · go_enter Tryz.func49, Tryz.ntmps49
        go_wp2_with fail
        go_ret
        exact ⟨ret_bool (by rw [Bool.eq_iff_iff]; simp [Ent.sizedB] <;> omega), alloc_one _ _⟩
    · have e1 : (hi == 0) = false := beq_false_of_ne h2
      subst h1
      go_enter Tryz.func49, Tryz.ntmps49
      go_wp2_with fail
      go_ret
      exact ⟨ret_bool (by rw [Bool.eq_iff_iff]; simp [Ent.sizedB] <;> omega), alloc_one _ _⟩
  · have e1 : (lo == 0) = false := beq_false_of_ne h1
    go_enter Tryz.func49, Tryz.ntmps49
    go_wp2_with fail
    go_ret
    exact ⟨ret_bool (by rw [Bool.eq_iff_iff]; simp [Ent.sizedB] <;> omega), alloc_one _ _⟩
set_option maxRecDepth 100000 in
set_option maxHeartbeats 4000000 in
theorem Readable_any (e : Ent.En) (A : Option Addr) (n c : Nat) (w : World) : Calls Tryz.prog 100 #[enV e A n c] w fun x w' => x = .returned (.int .u32 (Ent.readS e)) ∧ Below w.heap.size w w' := by
  obtain ⟨ix, sb, nm, ty, ac, mp, st, mx, lo, hi, df⟩ := e
  unfold enV
  dsimp only
  by_cases h1 : ac = 3
  · subst h1
    go_enter Tryz.func100, Tryz.ntmps100
    go_wp2_with fail
    go_ret
    exact ⟨rfl, alloc_one _ _⟩
  · have e1 : (ac == 3) = false := beq_false_of_ne h1
    have hv : Ent.readS ⟨ix, sb, nm, ty, ac, mp, st, mx, lo, hi, df⟩ = 0 := if_neg h1
    rw [hv]
    clear hv h1
    go_enter Tryz.func100, Tryz.ntmps100
    go_wp2_with fail
    go_ret
    exact ⟨rfl, alloc_one _ _⟩
set_option maxRecDepth 100000 in
set_option maxHeartbeats 4000000 in
theorem RReadable_any (e : Ent.En) (A : Option Addr) (n c : Nat) (w : World) : Calls Tryz.prog 63 #[enV e A n c] w fun x w' => x = .returned (.int .u32 (Ent.readS e)) ∧ Below w.heap.size w w' := by
  obtain ⟨ix, sb, nm, ty, ac, mp, st, mx, lo, hi, df⟩ := e
  unfold enV
  dsimp only
  by_cases h1 : ac = 3
  · subst h1
    go_enter Tryz.func63, Tryz.ntmps63
    go_wp2_with fail
    go_ret
    exact ⟨rfl, alloc_one _ _⟩
  · have e1 : (ac == 3) = false := beq_false_of_ne h1
    have hv : Ent.readS ⟨ix, sb, nm, ty, ac, mp, st, mx, lo, hi, df⟩ = 0 := if_neg h1
    rw [hv]
    clear hv h1
    go_enter Tryz.func63, Tryz.ntmps63
    go_wp2_with fail
    go_ret
    exact ⟨rfl, alloc_one _ _⟩
set_option maxRecDepth 100000 in
set_option maxHeartbeats 4000000 in
theorem Writable_any (e : Ent.En) (A : Option Addr) (n c : Nat) (w : World) : Calls Tryz.prog 101 #[enV e A n c] w fun x w' => x = .returned (.int .u32 (Ent.writS e)) ∧ Below w.heap.size w w' := by
  obtain ⟨ix, sb, nm, ty, ac, mp, st, mx, lo, hi, df⟩ := e
  unfold enV
  dsimp only
  by_cases h1 : ac = 1
  · subst h1
    go_enter Tryz.func101, Tryz.ntmps101
    go_wp2_with fail
    go_ret
    exact ⟨rfl, alloc_one _ _⟩
  by_cases h2 : ac = 2
  · subst h2
    go_enter Tryz.func101, Tryz.ntmps101
    go_wp2_with fail
    go_ret
    exact ⟨rfl, alloc_one _ _⟩
  have e1 : (ac == 1) = false := beq_false_of_ne h1
  have e2 : (ac == 2) = false := beq_false_of_ne h2
  have hv : Ent.writS ⟨ix, sb, nm, ty, ac, mp, st, mx, lo, hi, df⟩ = 0 := if_neg (fun h => h.elim h1 h2)
  rw [hv]
  clear hv h1 h2
  go_enter Tryz.func101, Tryz.ntmps101
  go_wp2_with fail
  go_ret
  exact ⟨rfl, alloc_one _ _⟩
set_option maxRecDepth 100000 in
set_option maxHeartbeats 4000000 in
theorem RWritable_any (e : Ent.En) (A : Option Addr) (n c : Nat) (w : World) : Calls Tryz.prog 62 #[enV e A n c] w fun x w' => x = .returned (.int .u32 (Ent.writS e)) ∧ Below w.heap.size w w' := by
  obtain ⟨ix, sb, nm, ty, ac, mp, st, mx, lo, hi, df⟩ := e
  unfold enV
  dsimp only
  by_cases h1 : ac = 1
  · subst h1
    go_enter Tryz.func62, Tryz.ntmps62
    go_wp2_with fail
    go_ret
    exact ⟨rfl, alloc_one _ _⟩
  by_cases h2 : ac = 2
  · subst h2
    go_enter Tryz.func62, Tryz.ntmps62
    go_wp2_with fail
    go_ret
    exact ⟨rfl, alloc_one _ _⟩
  have e1 : (ac == 1) = false := beq_false_of_ne h1
  have e2 : (ac == 2) = false := beq_false_of_ne h2
  have hv : Ent.writS ⟨ix, sb, nm, ty, ac, mp, st, mx, lo, hi, df⟩ = 0 := if_neg (fun h => h.elim h1 h2)
  rw [hv]
  clear hv h1 h2
  go_enter Tryz.func62, Tryz.ntmps62
  go_wp2_with fail
  go_ret
  exact ⟨rfl, alloc_one _ _⟩
end Go.Proofs.YtkddillihhjghaaGreat
/-
  Walks: types.kinds, of, and what is known of a type.
  Conditions: none.
-/
namespace Go.Proofs.YtkddillihhjghaaGreat
set_option linter.unusedVariables false
set_option linter.unusedSimpArgs false
open Go.RowKit
/-- The cells of what is known of a type. -/
def kc (t : Int) : Array Value := #[.string (T (Ty.kd t).name), .int .i64 ((Ty.kd t).size : Int), .int .i64 ((Ty.kd t).bits : Int), .bool (Ty.kd t).sgn]
def kcells : Array Value := ((List.range 32).flatMap fun (t : Nat) => (kc (t : Int)).toList).toArray
theorem run_kind : ∀ (k : Nat) (_ : k < 32) (w : World), (Instr.index 150 (.agg kcells) (.int .i64 (k : Int))).run Tryz.prog w = .ok (.agg (kc (k : Int))) w
  | 0, _ => fun _ => by kernel_rfl
  | 1, _ => fun _ => by kernel_rfl
  | 2, _ => fun _ => by kernel_rfl
  | 3, _ => fun _ => by kernel_rfl
  | 4, _ => fun _ => by kernel_rfl
  | 5, _ => fun _ => by kernel_rfl
  | 6, _ => fun _ => by kernel_rfl
  | 7, _ => fun _ => by kernel_rfl
  | 8, _ => fun _ => by kernel_rfl
  | 9, _ => fun _ => by kernel_rfl
  | 10, _ => fun _ => by kernel_rfl
  | 11, _ => fun _ => by kernel_rfl
  | 12, _ => fun _ => by kernel_rfl
  | 13, _ => fun _ => by kernel_rfl
  | 14, _ => fun _ => by kernel_rfl
  | 15, _ => fun _ => by kernel_rfl
  | 16, _ => fun _ => by kernel_rfl
  | 17, _ => fun _ => by kernel_rfl
  | 18, _ => fun _ => by kernel_rfl
  | 19, _ => fun _ => by kernel_rfl
  | 20, _ => fun _ => by kernel_rfl
  | 21, _ => fun _ => by kernel_rfl
  | 22, _ => fun _ => by kernel_rfl
  | 23, _ => fun _ => by kernel_rfl
  | 24, _ => fun _ => by kernel_rfl
  | 25, _ => fun _ => by kernel_rfl
  | 26, _ => fun _ => by kernel_rfl
  | 27, _ => fun _ => by kernel_rfl
  | 28, _ => fun _ => by kernel_rfl
  | 29, _ => fun _ => by kernel_rfl
  | 30, _ => fun _ => by kernel_rfl
  | 31, _ => fun _ => by kernel_rfl
  | k + 32, h => absurd h (by omega)
theorem below_setRow {B : Nat} {a w : World} (h : Below B a w) {g : Nat} (hg : B ≤ g) (cs : Array Value) : Below B a (w.setRow g cs) :=
  ⟨h.os, h.tape, h.output, by rw [size_setRow]; exact h.size, fun b hb => (setRow_other w g b cs (by omega)).trans (h.block b hb)⟩
set_option maxRecDepth 100000 in
set_option maxHeartbeats 4000000 in
theorem kinds_any (w : World) : Calls Tryz.prog 95 #[] w fun e w' => e = .returned (.agg kcells) ∧ Below w.heap.size w w' := by
  go_enter Tryz.func95, Tryz.ntmps95
  go_wp2_with (refine wpList_store_row rfl 150 (.tmp 0) (.tmp 12) rfl w.heap.size kcells (by kernel_rfl) (by kernel_rfl) 150 _ (heap_alloc_new w _) (by kernel_rfl) (by kernel_rfl) (by kernel_rfl) ?_)
  exact bodyPost_ret (v := .agg kcells) (results_cell_row Tryz.results95 _ _ w.heap.size 150 kcells (0, 0) _ (by kernel_rfl) (setRow_heap _ _ _ _ _ _ (heap_alloc_new w _)) Tryz.underlying150 rfl (by kernel_rfl)) rfl ⟨rfl, below_setRow (alloc_one w _) (Nat.le_refl _) _⟩
end Go.Proofs.YtkddillihhjghaaGreat
/-
  Walks: what is known of a type.
  Conditions: none.
-/
namespace Go.Proofs.YtkddillihhjghaaGreat
set_option linter.unusedVariables false
set_option linter.unusedSimpArgs false
open Go.RowKit
set_option maxRecDepth 100000 in
set_option maxHeartbeats 4000000 in
theorem of_any (t : Int) (w : World) : Calls Tryz.prog 70 #[.int .i64 t] w fun e w' => e = .returned (.agg #[.string (T (Ty.kd t).name), .int .i64 ((Ty.kd t).size : Int), .int .i64 ((Ty.kd t).bits : Int), .bool (Ty.kd t).sgn]) ∧ Below w.heap.size w w' := by
  by_cases h : 0 ≤ t ∧ t < 32
  · obtain ⟨h1, h2⟩ := h
    obtain ⟨k, rfl⟩ : ∃ k : Nat, t = (k : Int) := ⟨t.toNat, by omega⟩
    have hr := run_kind k (by omega)
    unfold kc at hr
    generalize (Ty.kd (k : Int)).name = nm at *
    generalize (Ty.kd (k : Int)).size = sz at *
    generalize (Ty.kd (k : Int)).bits = bt at *
    generalize (Ty.kd (k : Int)).sgn = sg at *
    generalize hkc : kcells = K at *
    have C := Lib.hid (fun w => kinds_any w)
    rw [hkc] at C
    clear hkc
    go_enter Tryz.func70, Tryz.ntmps70
    go_wp2_with fail
    refine (C.out _).mono ?_
    rintro e w1 ⟨rfl, b1⟩
    have KB := Blk.made b1
    have F := KB.four
    have hlt := KB.lt
    go_wp2_with fail
    have K4 := KB.store4 (.string (T nm)) (.int .i64 (sz : Int)) (.int .i64 (bt : Int)) (.bool sg)
    have F4 := K4.four.1
    exact bodyPost_ret (v := .agg #[.string (T nm), .int .i64 (sz : Int), .int .i64 (bt : Int), .bool sg]) (by simp [results, Tryz.results70, go_sem, F4]) rfl ⟨rfl, ((((below_step (alloc_one _ _) b1 (Nat.le_refl _)).setCell (p := ⟨w.heap.size, 0, none⟩) (Nat.le_refl _) _).setCell (p := ⟨w.heap.size, 1, none⟩) (Nat.le_refl _) _).setCell (p := ⟨w.heap.size, 2, none⟩) (Nat.le_refl _) _).setCell (p := ⟨w.heap.size, 3, none⟩) (Nat.le_refl _) _⟩
  · have e : Ty.kd t = Ty.kd0 := Ty.kd_none (by
      intro hm
      unfold Ty.nums at hm
      simp only [List.mem_cons, List.not_mem_nil, or_false] at hm
      omega)
    rw [e]
    rcases (show t < 0 ∨ (0 ≤ t ∧ 32 ≤ t) by omega) with h | ⟨h1, h2⟩
    all_goals
      clear e
      go_enter Tryz.func70, Tryz.ntmps70
      go_wp2_with fail
      exact bodyPost_ret (v := .agg #[.string (T []), .int .i64 0, .int .i64 0, .bool false]) (by simp [results, Tryz.results70, go_sem]; rfl) rfl ⟨rfl, alloc_one _ _⟩
theorem TBits_any (t : Int) (w : World) : Calls Tryz.prog 73 #[.int .i64 t] w fun e w' => e = .returned (.int .i64 ((Ty.kd t).bits : Int)) ∧ Below w.heap.size w w' := by
  have C := Lib.hid (of_any t w)
  generalize (Ty.kd t).name = nm at *
  generalize (Ty.kd t).size = sz at *
  generalize (Ty.kd t).bits = bt at *
  generalize (Ty.kd t).sgn = sg at *
  have hfd : ∀ w : World, (Instr.field 127 (.agg #[.string (T nm), .int .i64 (sz : Int), .int .i64 (bt : Int), .bool sg]) 2).run Tryz.prog w = .ok (.int .i64 (bt : Int)) w := fun _ => by kernel_rfl
  go_enter Tryz.func73, Tryz.ntmps73
  go_wp2_with fail
  refine (C.out).mono ?_
  rintro e w1 ⟨rfl, b1⟩
  go_wp2_with fail
  go_ret
  exact ⟨rfl, b1⟩
theorem kd_named (t : Int) : (Ty.kd t).name ≠ [] ∨ Ty.kd t = Ty.kd0 := by
  rcases Ty.kd_cases t with h | ⟨_, h⟩
  · left
    rcases h with rfl | rfl | rfl | rfl | rfl | rfl | rfl | rfl | rfl | rfl | rfl <;> decide
  · exact .inr h
/-- Is the type known? -/
def knownB (t : Int) : Bool := !(Ty.kd t).name.isEmpty
set_option maxHeartbeats 1000000 in
theorem TKnown_any (t : Int) (w : World) : Calls Tryz.prog 46 #[.int .i64 t] w fun e w' => e = .returned (.bool (knownB t)) ∧ Below w.heap.size w w' := by
  have C := Lib.hid (of_any t w)
  unfold knownB
  rcases kd_named t with h | h
  · generalize (Ty.kd t).name = nm at *
    generalize (Ty.kd t).size = sz at *
    generalize (Ty.kd t).bits = bt at *
    generalize (Ty.kd t).sgn = sg at *
    have h1 : nm.isEmpty = false := by simpa using h
    rw [h1]
    have h2 := T_toList nm
    have h3 : T nm ≠ T [] := T_ne h
    clear h
    go_enter Tryz.func46, Tryz.ntmps46
    go_wp2_with fail
    refine (C.out).mono ?_
    rintro e w1 ⟨rfl, b1⟩
    go_wp2_with fail
    go_ret
    exact ⟨rfl, b1⟩
  · rw [h] at C ⊢
    unfold Ty.kd0 at C ⊢
    dsimp only at C ⊢
    rw [show T [] = (⟨#[]⟩ : ByteArray) from rfl] at C
    go_enter Tryz.func46, Tryz.ntmps46
    go_wp2_with fail
    refine (C.out).mono ?_
    rintro e w1 ⟨rfl, b1⟩
    go_wp2_with fail
    go_ret
    exact ⟨rfl, b1⟩
end Go.Proofs.YtkddillihhjghaaGreat
