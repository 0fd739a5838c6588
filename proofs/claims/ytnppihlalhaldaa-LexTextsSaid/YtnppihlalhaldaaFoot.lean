/-
  Memory with a footprint: which blocks a datum lies in, which blocks a call touches.
  Conditions: none.
-/
import Derived.Test.YtnppihlalhaldaaLast
import Derived.Test.YtnppihlalhaldaaBlk
import Derived.Test.YtnppihlalhaldaaOpen
namespace Go.Proofs.Ytnppihlalhaldaa
set_option linter.unusedVariables false
set_option linter.unusedSimpArgs false
open Go.RowKit
/-- Nothing but blocks of F, and new ones, is touched. -/
structure Mv (F : Nat → Prop) (w w' : World) : Prop where
  os : w'.os = w.os
  tape : w'.tape = w.tape
  output : w'.output = w.output
  size : w.heap.size ≤ w'.heap.size
  block : ∀ b, b < w.heap.size → ¬ F b → w'.heap[b]? = w.heap[b]?
section
variable {F G : Nat → Prop} {w w' w1 w2 : World}
theorem Mv.refl (F : Nat → Prop) (w : World) : Mv F w w := ⟨rfl, rfl, rfl, Nat.le_refl _, fun _ _ _ => rfl⟩
theorem Mv.trans (h : Mv F w w1) (k : Mv G w1 w2) (hG : ∀ b, b < w.heap.size → G b → F b) : Mv F w w2 :=
  ⟨k.os.trans h.os, k.tape.trans h.tape, k.output.trans h.output, Nat.le_trans h.size k.size, fun b hb hF => (k.block b (Nat.lt_of_lt_of_le hb h.size) fun hg => hF (hG b hb hg)).trans (h.block b hb hF)⟩
theorem Mv.mono (h : Mv F w w') (hi : ∀ b, b < w.heap.size → F b → G b) : Mv G w w' := ⟨h.os, h.tape, h.output, h.size, fun b hb hG => h.block b hb fun hF => hG (hi b hb hF)⟩
theorem Mv.of_below {B : Nat} (h : Below B w w') : Mv (fun b => B ≤ b) w w' := ⟨h.os, h.tape, h.output, h.size, fun b _ hF => h.block b (Nat.lt_of_not_le hF)⟩
theorem Mv.of_new (h : Below w.heap.size w w') (F : Nat → Prop) : Mv F w w' := ⟨h.os, h.tape, h.output, h.size, fun b hb _ => h.block b hb⟩
theorem Mv.of_grown {row : Option Nat} (h : w.grownBy w' row) : Mv (fun b => some b = row) w w' := ⟨h.os, h.tape, h.output, h.size, fun b hb hF => h.block b hb hF⟩
theorem Mv.grown {g : Nat} (h : Mv (fun b => b = g) w w') : w.grownBy w' (some g) := ⟨h.os, h.tape, h.output, h.size, fun b hb hF => h.block b hb fun e => hF (by rw [e])⟩
theorem Mv.below {B : Nat} (h : Mv F w w') (hB : B ≤ w.heap.size) (hF : ∀ b, F b → B ≤ b) : Below B w w' := ⟨h.os, h.tape, h.output, h.size, fun b hb => h.block b (Nat.lt_of_lt_of_le hb hB) fun hf => by have := hF b hf; omega⟩
theorem Mv.setCell (w : World) (p : Addr) (u : Value) : Mv (fun b => b = p.block) w (w.setCell p u) := ⟨rfl, rfl, rfl, by simp [World.setCell], fun b _ hF => Below.heap_setCell w p u b hF⟩
theorem Mv.alloc (w : World) (o : Obj) (F : Nat → Prop) : Mv F w (w.alloc o) := Mv.of_new ((Below.refl _ _).alloc (Nat.le_refl _) o) F
theorem Mv.drew (h : Mv F w w') : Mv F w w'.drew := ⟨h.os, h.tape, h.output, h.size, h.block⟩
theorem Blk.mv {g : Nat} {t : TypeId} {cs : Array Value} (h : Blk w g t cs) (hm : Mv F w w') (hg : ¬ F g) : Blk w' g t cs := (hm.block g h.lt hg).trans h
theorem RB.mv {B n c : Nat} {A : Option Addr} {l : List UInt8} (h : RB w B A n c l) (hm : Mv F w w') (hB : B ≤ w.heap.size) (hF : ∀ b, b < B → ¬ F b) : RB w' B A n c l :=
  h.keep fun p hp => World.cell?_of_block (hm.block p.block (Nat.lt_of_lt_of_le hp hB) (hF _ hp))
end
/-- A world that came of w0 by touching blocks of G alone. -/
structure Wd (G : Nat → Prop) (w0 : World) where
  val : World
  ok : Mv G w0 val
instance instWd (G : Nat → Prop) (w0 : World) : Nonempty (Wd G w0) := ⟨⟨w0, Mv.refl _ _⟩⟩
section
variable {P : Program} {Q : Exit → Act → World → Prop} {md : Region.Mode} {t : Nat} {G : Nat → Prop}
/-- A region that draws its order: the class of its worlds is 'touched in G alone'; behind its last operation t nothing is asked. -/
theorem region_mv {id : Nat} {l : List Oper} {a : Act} {w : World} (t : Nat) (G : Nat → Prop) (hm : P.follows .mixedOrders = true)
    (h : wpAnyL P .any l.toArray (NoPanic Q) t (fun x => ∃ v : Wd G w, x = v.val) l.length (Array.replicate l.length false) a w.drew) : (Code.region id l.toArray true).wp P Q a w :=
  wp_region_noPanic (wp_region_any hm (by simpa using wpAny_of_L _ _ _ _ h))
theorem phase_mv {l : List Oper} (hsel : Region.noSelect l.toArray = true) (fuel : Nat) {w0 w : World} (hb : Mv G w0 w) (σ : List Nat) {n : Nat} {listed : Array Bool} {a : Act} (hn : n = σ.length + fuel) (hok : okPhaseL md l t listed σ = true)
    (h : wpQuiet P l.toArray (fun x => ∃ v : Wd G w0, x = v.val) (fun a' => wpAnyL P md l.toArray (NoPanic Q) t (fun x => ∃ v : Wd G w0, x = v.val) fuel (after listed σ) a' w) (picks l σ) a) :
    wpAnyL P md l.toArray (NoPanic Q) t (fun x => ∃ v : Wd G w0, x = v.val) n listed a w := phaseL_of hsel (fun _ _ _ _ _ h => h) fuel w ⟨⟨w, hb⟩, rfl⟩ σ listed a hn hok h
theorem behind_mv {l : List Oper} {fuel : Nat} {listed : Array Bool} {a : Act} {w0 w : World} (hb : Mv G w0 w)
    (h : wpAnyL P md l.toArray Q t (fun x => ∃ v : Wd G w0, x = v.val) fuel listed a w) : Qn (fun a' w' => BehindL P md l Q t (fun x => ∃ v : Wd G w0, x = v.val) fuel listed a' w') Q .normal a w :=
  ⟨_, ⟨⟨w, hb⟩, rfl⟩, fun _ hx => hx, h⟩
theorem phase_endL {S : World → Prop} {l : List Oper} {listed : Array Bool} {a : Act} {w : World} (hr : Region.ready md l.toArray listed = []) (h : Q .normal a w) : wpAnyL P md l.toArray (NoPanic Q) t S 0 listed a w := ⟨hr, NoPanic.normal h⟩
theorem Blk.four_mv {w0 : World} {g : Nat} {ty : TypeId} {a b c d : Value} (h : Blk w0 g ty #[a, b, c, d]) (hg : ¬ G g) : ∀ v : Wd G w0, v.val.cell? ⟨g, 0, none⟩ = some a ∧ v.val.cell? ⟨g, 1, none⟩ = some b ∧ v.val.cell? ⟨g, 2, none⟩ = some c ∧ v.val.cell? ⟨g, 3, none⟩ = some d := fun v => by
  have k := h.mv v.ok hg
  exact ⟨k.cell 0, k.cell 1, k.cell 2, k.cell 3⟩
theorem Blk.three_mv {w0 : World} {g : Nat} {ty : TypeId} {a b c : Value} (h : Blk w0 g ty #[a, b, c]) (hg : ¬ G g) : ∀ v : Wd G w0, v.val.cell? ⟨g, 0, none⟩ = some a ∧ v.val.cell? ⟨g, 1, none⟩ = some b ∧ v.val.cell? ⟨g, 2, none⟩ = some c := fun v => by
  have k := h.mv v.ok hg
  exact ⟨k.cell 0, k.cell 1, k.cell 2⟩
theorem cell_mv {w0 : World} {a : Addr} {x : Value} (h : w0.cell? a = some x) (hg : ¬ G a.block) : ∀ v : Wd G w0, v.val.cell? a = some x := fun v =>
  (World.cell?_of_block (v.ok.block a.block (World.block_lt_of_cell? w0 _ h) hg)).trans h
end
/-- The slice reads as the bytes l; its cells lie in a block of F. -/
structure RBp (w : World) (F : Nat → Prop) (A : Option Addr) (n c : Nat) (l : List UInt8) : Prop where
  len : l.length = n
  le : n ≤ c
  cap : c ≤ 9223372036854775807
  nil : A = none → n = 0 ∧ c = 0
  at_ : 0 < n → ∃ b o, A = some ⟨b, o, none⟩ ∧ F b ∧ b < w.heap.size ∧ ∀ i, i < n → w.cell? ⟨b, o + i, none⟩ = some (.int .u8 ((l.getD i 0).toNat : Int))
structure RVp (w : World) (F : Nat → Prop) (size : Nat) (A : Option Addr) (n c : Nat) (xs : List Value) : Prop where
  len : xs.length = n * size
  le : n ≤ c
  cap : c ≤ 9223372036854775807
  nil : A = none → n = 0 ∧ c = 0
  at_ : 0 < n → ∃ b o, A = some ⟨b, o, none⟩ ∧ F b ∧ b < w.heap.size ∧ ∀ j u, xs[j]? = some u → w.cell? ⟨b, o + j, none⟩ = some u
section
variable {F G : Nat → Prop} {w w' : World} {A : Option Addr} {n c size : Nat} {l : List UInt8} {xs : List Value}
theorem RBp.none_ (w : World) (F : Nat → Prop) : RBp w F none 0 0 [] := ⟨rfl, Nat.le_refl _, by omega, fun _ => ⟨rfl, rfl⟩, fun h => absurd h (by omega)⟩
theorem RVp.none_ (w : World) (F : Nat → Prop) (size : Nat) : RVp w F size none 0 0 [] := ⟨by simp, Nat.le_refl _, by omega, fun _ => ⟨rfl, rfl⟩, fun h => absurd h (by omega)⟩
theorem RBp.rb (h : RBp w F A n c l) : RB w w.heap.size A n c l := ⟨h.len, h.le, h.cap, h.nil, fun hn => by
  obtain ⟨b, o, e, _, hb, hc⟩ := h.at_ hn
  exact ⟨b, o, e, hb, hc⟩⟩
theorem RVp.rv (h : RVp w F size A n c xs) : RV w w.heap.size size A n c xs := ⟨h.len, h.le, h.cap, h.nil, fun hn => by
  obtain ⟨b, o, e, _, hb, hc⟩ := h.at_ hn
  exact ⟨b, o, e, hb, hc⟩⟩
theorem RBp.mono (h : RBp w F A n c l) (hi : ∀ b, b < w.heap.size → F b → G b) : RBp w G A n c l := ⟨h.len, h.le, h.cap, h.nil, fun hn => by
  obtain ⟨b, o, e, hF, hb, hc⟩ := h.at_ hn
  exact ⟨b, o, e, hi b hb hF, hb, hc⟩⟩
theorem RVp.mono (h : RVp w F size A n c xs) (hi : ∀ b, b < w.heap.size → F b → G b) : RVp w G size A n c xs := ⟨h.len, h.le, h.cap, h.nil, fun hn => by
  obtain ⟨b, o, e, hF, hb, hc⟩ := h.at_ hn
  exact ⟨b, o, e, hi b hb hF, hb, hc⟩⟩
theorem RBp.mv (h : RBp w F A n c l) (hm : Mv G w w') (hd : ∀ b, b < w.heap.size → F b → ¬ G b) : RBp w' F A n c l := ⟨h.len, h.le, h.cap, h.nil, fun hn => by
  obtain ⟨b, o, e, hF, hb, hc⟩ := h.at_ hn
  exact ⟨b, o, e, hF, Nat.lt_of_lt_of_le hb hm.size, fun i hi => (World.cell?_of_block (hm.block b hb (hd b hb hF))).trans (hc i hi)⟩⟩
theorem RVp.mv (h : RVp w F size A n c xs) (hm : Mv G w w') (hd : ∀ b, b < w.heap.size → F b → ¬ G b) : RVp w' F size A n c xs := ⟨h.len, h.le, h.cap, h.nil, fun hn => by
  obtain ⟨b, o, e, hF, hb, hc⟩ := h.at_ hn
  exact ⟨b, o, e, hF, Nat.lt_of_lt_of_le hb hm.size, fun j u hu => (World.cell?_of_block (hm.block b hb (hd b hb hF))).trans (hc j u hu)⟩⟩
theorem RBp.below (h : RBp w F A n c l) (hb : Below w.heap.size w w') : RBp w' F A n c l := h.mv (Mv.of_new hb fun _ => False) fun _ _ _ h => h
theorem RVp.below (h : RVp w F size A n c xs) (hb : Below w.heap.size w w') : RVp w' F size A n c xs := h.mv (Mv.of_new hb fun _ => False) fun _ _ _ h => h
theorem OB.rbp {base : Nat} (h : OB w base A n c l) (hF : ∀ k, (Value.slice A n c).ownBlock = some k → F k) : RBp w F A n c l := by
  have hr := h.rb
  refine ⟨hr.len, hr.le, hr.cap, hr.nil, fun hn => ?_⟩
  obtain ⟨b, o, rfl, hb, hc⟩ := hr.at_ hn
  obtain ⟨g, e, _, _⟩ := h.head hn
  exact ⟨b, o, rfl, hF b (by injection e with e; injection e with e1 _; simp [Value.ownBlock]), hb, hc⟩
theorem OV.rvp {base e : Nat} (h : OV w base e size A n c xs) (hF : ∀ k, (Value.slice A n c).ownBlock = some k → F k) : RVp w F size A n c xs := by
  have hr := h.rv
  refine ⟨hr.len, hr.le, hr.cap, hr.nil, fun hn => ?_⟩
  obtain ⟨b, o, rfl, hb, hc⟩ := hr.at_ hn
  exact ⟨b, o, rfl, hF b (by simp [Value.ownBlock]), hb, hc⟩
/-- 'x[:k]', whatever its capacity becomes. -/
theorem RVp.take (h : RVp w F size A n c xs) {k : Nat} (hk : k ≤ n) {c' : Nat} (hc' : c' ≤ c) (hkc : k ≤ c') : RVp w F size A k c' (xs.take (k * size)) := by
  have hm := Nat.mul_le_mul_right size hk
  refine ⟨by rw [List.length_take, h.len]; omega, hkc, Nat.le_trans hc' h.cap, fun e => ?_, fun hn => ?_⟩
  · have := h.nil e; omega
  · obtain ⟨b, o, rfl, hF, hb, hc⟩ := h.at_ (by omega)
    refine ⟨b, o, rfl, hF, hb, fun j u hu => ?_⟩
    rw [List.getElem?_take] at hu
    split at hu
    · exact hc j u hu
    · cases hu
/-- 'x[k:]' -/
theorem RVp.drop (h : RVp w F size A n c xs) {k : Nat} (hk : k ≤ n) : RVp w F size (if c = k then A else A.map (·.add (k * size))) (n - k) (c - k) (xs.drop (k * size)) := by
  refine ⟨by rw [List.length_drop, h.len, Nat.sub_mul], by have := h.le; omega, by have := h.cap; omega, fun e => ?_, fun hn => ?_⟩
  · have hA : A = none := by
      split at e
      · exact e
      · simpa using e
    have := h.nil hA; omega
  · obtain ⟨b, o, rfl, hF, hb, hc⟩ := h.at_ (by omega)
    rw [if_neg (by have := h.le; omega)]
    refine ⟨b, o + k * size, by simp [Addr.add_lit], hF, hb, fun j u hu => ?_⟩
    rw [Nat.add_assoc]
    exact hc _ u (by rw [← hu, List.getElem?_drop])
end
section
variable {P : Program} {T E size bytes : Nat} {z : Value}
theorem run_sizeOf (ht : ET P T E size bytes z) (w : World) : (sizeOf E).run P w = .ok size w := by
  obtain ⟨i, hi, _, hs, _⟩ := ht.info
  simp [sizeOf, typeInfo, hi, hs]
theorem et_elem (ht : ET P T E size bytes z) : P.elem T = E := by
  have := ht.sl
  simp [Program.elem, this]
/-- 'x[k:]' -/
theorem run_cut_rest (ht : ET P T E size bytes z) (A : Option Addr) (n c k : Nat) (hk : k ≤ n) (kd : IntKind) (w : World) :
    (Instr.slice T (.slice A n c) (some (.int kd (k : Int))) none none).run P w = .ok (.slice (if c = k then A else A.map (·.add (k * size))) (n - k) (c - k)) w := by
  have hT : P.underlying T = some (.slice (P.elem T)) := by rw [et_elem ht]; exact ht.sl
  rw [run_slice_l w T A n c hT kd (k : Int) (by omega) (by omega), et_elem ht, run_sizeOf ht]
  simp [Result.andThen, sliced]
/-- 'x[:k:k]' -/
theorem run_cut_full (ht : ET P T E size bytes z) (A : Option Addr) (n c k : Nat) (hk : k ≤ c) (kd kd' : IntKind) (w : World) :
    (Instr.slice T (.slice A n c) none (some (.int kd (k : Int))) (some (.int kd' (k : Int)))).run P w = .ok (.slice A k k) w := by
  have hT : P.underlying T = some (.slice (P.elem T)) := by rw [et_elem ht]; exact ht.sl
  rw [run_slice_hm w T A n c hT kd kd' (k : Int) (k : Int) (by omega) (by omega) (by omega), et_elem ht, run_sizeOf ht]
  cases A <;> simp [Result.andThen, sliced, Addr.add]
/-- 'x[:k]' -/
theorem run_cut_head (ht : ET P T E size bytes z) (A : Option Addr) (n c k : Nat) (hk : k ≤ c) (kd : IntKind) (w : World) :
    (Instr.slice T (.slice A n c) none (some (.int kd (k : Int))) none).run P w = .ok (.slice A k c) w := by
  have hT : P.underlying T = some (.slice (P.elem T)) := by rw [et_elem ht]; exact ht.sl
  rw [run_slice_h w T A n c hT kd (k : Int) (by omega) (by omega), et_elem ht, run_sizeOf ht]
  cases A <;> simp [Result.andThen, sliced, Addr.add]
end
end Go.Proofs.Ytnppihlalhaldaa
