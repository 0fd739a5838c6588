/-
  Texts joined: Last, Foot, DicMem, EntBef.
  Conditions: none.
-/
import Derived.Test.YtbmocffnnlfnjaaGreatJ02
import Derived.Test.YtbmocffnnlfnjaaGreatJ04
import Derived.Test.YtbmocffnnlfnjaaGreatJ05
/-
  A region that draws its order, whose last operation writes to what the region reads: behind operation t the class of worlds is not asked for.
  Conditions: none.
-/
namespace Go.Proofs.YtbmocffnnlfnjaaGreat
set_option linter.unusedVariables false
set_option linter.unusedSimpArgs false
open Go.RowKit Go.Sort
section
variable {P : Program} {ops : Array Oper} {Q : Exit → Act → World → Prop} {md : Region.Mode} {S S' : World → Prop} {t : Nat}
def wpAnyL (P : Program) (md : Region.Mode) (ops : Array Oper) (Q : Exit → Act → World → Prop) (t : Nat) (S : World → Prop) : Nat → Array Bool → Act → World → Prop
  | 0, listed, a, w => Region.ready md ops listed = [] ∧ Q .normal a w
  | fuel + 1, listed, a, w =>
    (Region.ready md ops listed = [] → Q .normal a w) ∧
    ∀ i ∈ Region.ready md ops listed, wpOp P ops Q i (fun a' w' => (i = t ∨ S w') ∧ wpAnyL P md ops Q t S fuel (listed.setIfInBounds i true) a' w') a w
theorem wpAny_of_L : ∀ (fuel : Nat) (listed : Array Bool) (a : Act) (w : World), wpAnyL P md ops Q t S fuel listed a w → wpAny P md ops Q fuel listed a w
  | 0, _, _, _, h => h
  | fuel + 1, _, _, _, h => ⟨h.1, fun i hi => wpOp_mono (fun a' w' h' => wpAny_of_L fuel _ a' w' h'.2) (h.2 i hi)⟩
theorem heldL_mono (hS : ∀ w, S' w → S w) : ∀ (fuel : Nat) (listed : Array Bool) (a : Act) (w : World), wpAnyL P md ops Q t S' fuel listed a w → wpAnyL P md ops Q t S fuel listed a w
  | 0, _, _, _, h => h
  | fuel + 1, _, _, _, h => ⟨h.1, fun i hi => wpOp_mono (fun a' w' h' => ⟨h'.1.imp id (hS _), heldL_mono hS fuel _ a' w' h'.2⟩) (h.2 i hi)⟩
/-- Operation t waits for operation i. -/
def waits (md : Region.Mode) (ops : Array Oper) (t i : Nat) : Bool := match ops[t]? with
  | some o => o.after.any fun e => Region.binds md e && e.on == i
  | none => true
theorem waits_spec {i : Nat} {o : Oper} (h : waits md ops t i = true) (ho : ops[t]? = some o) : ∃ e ∈ o.after, Region.binds md e = true ∧ e.on = i := by
  unfold waits at h
  rw [ho] at h
  simp only [Array.any_eq_true', Bool.and_eq_true, beq_iff_eq] at h
  obtain ⟨e, he, h1, h2⟩ := h
  exact ⟨e, he, h1, h2⟩
theorem wpAnyL_first {i : Nat} {oi : Oper} {v : Value} (hi : ops[i]? = some oi) (hT : waits md ops t i = true) (hsel : ∀ (j : Nat) (o : Oper) cs b, ops[j]? = some o → o.op ≠ .select cs b)
    (hQ : ∀ c a w, Q (.panic c) (a.put oi.dst v) w → Q (.panic c) a w) :
    ∀ (fuel : Nat) (listed : Array Bool) (a : Act) (w : World),
      (∀ j oj, ops[j]? = some oj → j ≠ i → listed.getD j true = false → (∀ e ∈ oj.after, Region.binds md e = true → e.on ≠ i) → oi.apart ops oj = true) →
      i ∈ Region.ready md ops listed → YieldsIf P ops S oi v a → S w →
      wpAnyL P md ops Q t S fuel (listed.setIfInBounds i true) (a.put oi.dst v) w → wpAnyL P md ops Q t S (fuel + 1) listed a w := by
  intro fuel
  induction fuel with
  | zero =>
    intro listed a w _ hr hy hS H
    refine ⟨fun h => (by rw [h] at hr; cases hr), fun j hj => ?_⟩
    by_cases hji : j = i
    · subst hji; exact hy.wpOp hi hS ⟨.inr hS, H⟩
    · have := ready_mono hj hji
      rw [H.1] at this
      cases this
  | succ fuel ih =>
    intro listed a w hfree hr hy hS H
    refine ⟨fun h => (by rw [h] at hr; cases hr), fun j hj => ?_⟩
    by_cases hji : j = i
    · subst hji; exact hy.wpOp hi hS ⟨.inr hS, H⟩
    · have h1 := H.2 j (ready_mono hj hji)
      obtain ⟨hjun, oj, hoj, hall⟩ := mem_ready.1 hj
      have hnot : ∀ e ∈ oj.after, Region.binds md e = true → e.on ≠ i := fun e he hb heq => by
        have h1 := hall e he hb
        have h0 := (mem_ready.1 hr).1
        rw [heq] at h1
        rcases Nat.lt_or_ge i listed.size with h' | h'
        · simp [h'] at h0 h1; rw [h0] at h1; cases h1
        · simp [Array.getElem?_eq_none h'] at h1
      have hjt : j ≠ t := fun e => by
        subst e
        obtain ⟨e, he, hb, heq⟩ := waits_spec hT hoj
        exact hnot e he hb heq
      have h2 := wpOp_putIf hoj (hfree j oj hoj hji hjun hnot) (fun cs b => hsel i oi cs b hi) (fun cs b => hsel j oj cs b hoj) hQ hy h1
      have hfree' : ∀ k ok, ops[k]? = some ok → k ≠ i → (listed.setIfInBounds j true).getD k true = false →
          (∀ e ∈ ok.after, Region.binds md e = true → e.on ≠ i) → oi.apart ops ok = true := fun k ok hk hki hun hno => by
        refine hfree k ok hk hki ?_ hno
        by_cases hjk : j = k
        · subst hjk; exact hjun
        · rw [getD_set_ne true hjk] at hun; exact hun
      refine wpOp_mono (fun a' w' h3 => ?_) h2
      have hS' : S w' := h3.2.1.resolve_left hjt
      refine ⟨.inr hS', ih (listed.setIfInBounds j true) a' w' hfree' (ready_mono hr (Ne.symm hji)) h3.1 hS' ?_⟩
      rw [Array.setIfInBounds_comm _ _ hji]
      exact h3.2.2
def okPhaseL (md : Region.Mode) (l : List Oper) (t : Nat) : Array Bool → List Nat → Bool
  | _, [] => true
  | listed, i :: σ => decide (i < l.length) && waits md l.toArray t i && (Region.ready md l.toArray listed).contains i && Region.free md l.toArray listed i && calm (nth l i) && okPhaseL md l t (listed.setIfInBounds i true) σ
theorem phaseL_of {l : List Oper} (hsel : Region.noSelect l.toArray = true) (hQ : ∀ c a d v w, Q (.panic c) (Act.put a d v) w → Q (.panic c) a w) (fuel : Nat) (w : World) (hS : S w) :
    ∀ (σ : List Nat) {n : Nat} (listed : Array Bool) (a : Act), n = σ.length + fuel → okPhaseL md l t listed σ = true →
      wpQuiet P l.toArray S (fun a' => wpAnyL P md l.toArray Q t S fuel (after listed σ) a' w) (picks l σ) a → wpAnyL P md l.toArray Q t S n listed a w
  | [], n, listed, a, hn, _, h => by
    obtain rfl : n = fuel := by simpa using hn
    exact h
  | i :: σ, n, listed, a, hn, hok, h => by
    obtain rfl : n = (σ.length + fuel) + 1 := by simp at hn; omega
    simp only [okPhaseL, Bool.and_eq_true, decide_eq_true_eq] at hok
    obtain ⟨⟨⟨⟨⟨hi, hT⟩, hr⟩, hf⟩, hc⟩, hrest⟩ := hok
    have ho : l.toArray[i]? = some (nth l i) := by rw [List.getElem?_toArray]; exact nth_some l i hi
    simp only [picks, wpQuiet] at h
    have step : ∀ v, YieldsIf P l.toArray S (nth l i) v a → wpQuiet P l.toArray S (fun a' => wpAnyL P md l.toArray Q t S fuel (after (listed.setIfInBounds i true) σ) a' w) (picks l σ) (a.put (nth l i).dst v) →
        wpAnyL P md l.toArray Q t S ((σ.length + fuel) + 1) listed a w := fun v hy hk =>
      wpAnyL_first ho hT (Region.noSelect_spec hsel) (fun c a w => hQ c a _ _ w) (σ.length + fuel) listed a w (Region.free_spec ho hf) (by simpa using hr) hy hS
        (phaseL_of hsel hQ fuel w hS σ _ _ rfl hrest hk)
    by_cases hw : Region.wanted (nth l i) (yielded l.toArray a.tmps) = true
    · rw [if_pos hw] at h
      obtain ⟨v, hv, hk⟩ := yields_of_quiet hc hS h
      exact step v (.inl ⟨hw, hv⟩) hk
    · rw [if_neg hw] at h
      exact step undef (.inr ⟨by simpa using hw, rfl⟩) h
def BehindL (P : Program) (md : Region.Mode) (l : List Oper) (Q : Exit → Act → World → Prop) (t : Nat) (S : World → Prop) (fuel : Nat) (listed : Array Bool) (a : Act) (w : World) : Prop :=
  ∃ S' : World → Prop, S' w ∧ (∀ x, S' x → S x) ∧ wpAnyL P md l.toArray Q t S' fuel listed a w
theorem phase_opL {l : List Oper} (i : Nat) {n : Nat} (fuel : Nat) {listed : Array Bool} {a : Act} {w : World} (hn : n = fuel + 1) (hr : Region.ready md l.toArray listed = [i]) (hi : i < l.length)
    (h : wpList P l.toArray (Qn (fun a' w' => BehindL P md l Q t S fuel (listed.setIfInBounds i true) a' w') Q) [nth l i] a w) : wpAnyL P md l.toArray Q t S n listed a w := by
  subst hn
  have ho : l.toArray[i]? = some (nth l i) := by rw [List.getElem?_toArray]; exact nth_some l i hi
  refine ⟨(fun h0 => by rw [hr] at h0; cases h0), fun j hj => ?_⟩
  rw [hr] at hj
  obtain rfl : j = i := by simpa using hj
  have fin : ∀ a' w', BehindL P md l Q t S fuel (listed.setIfInBounds j true) a' w' → (j = t ∨ S w') ∧ wpAnyL P md l.toArray Q t S fuel (listed.setIfInBounds j true) a' w' := fun a' w' ⟨S', h1, h2, h3⟩ => ⟨.inr (h2 _ h1), heldL_mono h2 _ _ _ _ h3⟩
  refine wpOp_mono fin ?_
  unfold wpOp
  simp only [ho]
  simp only [wpList] at h
  by_cases hw : Region.wanted (nth l j) (yielded l.toArray a.tmps) = true
  · rw [if_pos hw] at h ⊢
    rcases h with h | ⟨h1, a0, w0, h2⟩
    · exact .inl h
    · exact .inr ⟨h1, a0, w0, h2⟩
  · rw [if_neg hw] at h ⊢
    exact h
/-- The last operation. -/
theorem phase_last {l : List Oper} {n : Nat} (fuel : Nat) {listed : Array Bool} {a : Act} {w : World} (hn : n = fuel + 1) (hr : Region.ready md l.toArray listed = [t]) (hi : t < l.length) (hd : Region.ready md l.toArray (listed.setIfInBounds t true) = [])
    (h : wpList P l.toArray (Qn (fun a' w' => Q .normal a' w') (NoPanic Q)) [nth l t] a w) : wpAnyL P md l.toArray (NoPanic Q) t S n listed a w := by
  subst hn
  have ho : l.toArray[t]? = some (nth l t) := by rw [List.getElem?_toArray]; exact nth_some l t hi
  refine ⟨(fun h0 => by rw [hr] at h0; cases h0), fun j hj => ?_⟩
  rw [hr] at hj
  obtain rfl : j = t := by simpa using hj
  have done : ∀ a' w', Q .normal a' w' → (j = j ∨ S w') ∧ wpAnyL P md l.toArray (NoPanic Q) j S fuel (listed.setIfInBounds j true) a' w' := fun a' w' hq => by
    refine ⟨.inl rfl, ?_⟩
    cases fuel with
    | zero => exact ⟨hd, NoPanic.normal hq⟩
    | succ k => exact ⟨fun _ => NoPanic.normal hq, by rw [hd]; simp⟩
  have hm : wpOp P l.toArray (NoPanic Q) j (fun a' w' => Q .normal a' w') a w := by
    unfold wpOp
    simp only [ho]
    simp only [wpList] at h
    by_cases hw : Region.wanted (nth l j) (yielded l.toArray a.tmps) = true
    · rw [if_pos hw] at h ⊢
      rcases h with h | ⟨h1, a0, w0, h2⟩
      · exact .inl h
      · exact .inr ⟨h1, a0, w0, h2⟩
    · rw [if_neg hw] at h ⊢
      exact h
  exact wpOp_mono done hm
/-- The region, its class: the world at hand, and whatever has been laid behind it; t: its last operation. -/
theorem region_laterL {id : Nat} {l : List Oper} {a : Act} {w : World} (t : Nat) (hm : P.follows .mixedOrders = true)
    (h : wpAnyL P .any l.toArray (NoPanic Q) t (fun x => ∃ p : Regrown, x = grow (redrawn w p.d) p.os) l.length (Array.replicate l.length false) a w.drew) : (Code.region id l.toArray true).wp P Q a w :=
  wp_region_noPanic (wp_region_any hm (by simpa using wpAny_of_L _ _ _ _ h))
theorem phase_laterL {l : List Oper} (hsel : Region.noSelect l.toArray = true) (fuel : Nat) {w0 w : World} (hb : Below w0.heap.size w0 w) (σ : List Nat) {n : Nat} {listed : Array Bool} {a : Act} (hn : n = σ.length + fuel) (hok : okPhaseL md l t listed σ = true)
    (h : wpQuiet P l.toArray (fun x => ∃ p : Regrown, x = grow (redrawn w0 p.d) p.os) (fun a' => wpAnyL P md l.toArray (NoPanic Q) t (fun x => ∃ p : Regrown, x = grow (redrawn w0 p.d) p.os) fuel (after listed σ) a' w) (picks l σ) a) :
    wpAnyL P md l.toArray (NoPanic Q) t (fun x => ∃ p : Regrown, x = grow (redrawn w0 p.d) p.os) n listed a w := phaseL_of hsel (fun _ _ _ _ _ h => h) fuel w (later_of hb) σ listed a hn hok h
theorem behind_laterL {l : List Oper} {fuel : Nat} {listed : Array Bool} {a : Act} {w0 w : World} (hb : Below w0.heap.size w0 w)
    (h : wpAnyL P md l.toArray Q t (fun x => ∃ p : Regrown, x = grow (redrawn w p.d) p.os) fuel listed a w) : Qn (fun a' w' => BehindL P md l Q t (fun x => ∃ p : Regrown, x = grow (redrawn w0 p.d) p.os) fuel listed a' w') Q .normal a w :=
  ⟨_, later_of (Below.refl _ _), fun _ hx => later_of (hb.trans ((of_later hx).mono hb.size)), h⟩
theorem behind_sinceL {l : List Oper} {fuel : Nat} {listed : Array Bool} {a : Act} {w0 w : World} (hb : Below w0.heap.size w0 w)
    (h : wpAnyL P md l.toArray Q t (fun x => ∃ p : Regrown, x = grow (redrawn w0 p.d) p.os) fuel listed a w) : Qn (fun a' w' => BehindL P md l Q t (fun x => ∃ p : Regrown, x = grow (redrawn w0 p.d) p.os) fuel listed a' w') Q .normal a w :=
  ⟨_, later_of hb, fun _ hx => hx, h⟩
theorem behind_last {K : Exit → Act → World → Prop} {a : Act} {w : World} (h : Q .normal a w) : Qn (fun a' w' => Q .normal a' w') K .normal a w := h
end
end Go.Proofs.YtbmocffnnlfnjaaGreat
/-
  Memory with a footprint: which blocks a datum lies in, which blocks a call touches.
  Conditions: none.
-/
namespace Go.Proofs.YtbmocffnnlfnjaaGreat
set_option linter.unusedVariables false
set_option linter.unusedSimpArgs false
open Go.RowKit
/-- Nothing but blocks of F, and new ones, is touched. -/
structure Mv (F : Nat → Prop) (w w' : World) : Prop where
  os : w'.os = w.os
  tape : w'.tape = w.tape
  output : w'.output = w.output
  size : w.heap.size ≤ w'.heap.size
  block : ∀ b, b < w.heap.size → ¬ F b → w'.heap[b]? = w.heap[b]?
section
variable {F G : Nat → Prop} {w w' w1 w2 : World}
theorem Mv.refl (F : Nat → Prop) (w : World) : Mv F w w := ⟨rfl, rfl, rfl, Nat.le_refl _, fun _ _ _ => rfl⟩
theorem Mv.trans (h : Mv F w w1) (k : Mv G w1 w2) (hG : ∀ b, b < w.heap.size → G b → F b) : Mv F w w2 :=
  ⟨k.os.trans h.os, k.tape.trans h.tape, k.output.trans h.output, Nat.le_trans h.size k.size, fun b hb hF => (k.block b (Nat.lt_of_lt_of_le hb h.size) fun hg => hF (hG b hb hg)).trans (h.block b hb hF)⟩
theorem Mv.mono (h : Mv F w w') (hi : ∀ b, b < w.heap.size → F b → G b) : Mv G w w' := ⟨h.os, h.tape, h.output, h.size, fun b hb hG => h.block b hb fun hF => hG (hi b hb hF)⟩
theorem Mv.of_below {B : Nat} (h : Below B w w') : Mv (fun b => B ≤ b) w w' := ⟨h.os, h.tape, h.output, h.size, fun b _ hF => h.block b (Nat.lt_of_not_le hF)⟩
theorem Mv.of_new (h : Below w.heap.size w w') (F : Nat → Prop) : Mv F w w' := ⟨h.os, h.tape, h.output, h.size, fun b hb _ => h.block b hb⟩
theorem Mv.of_grown {row : Option Nat} (h : w.grownBy w' row) : Mv (fun b => some b = row) w w' := ⟨h.os, h.tape, h.output, h.size, fun b hb hF => h.block b hb hF⟩
theorem Mv.grown {g : Nat} (h : Mv (fun b => b = g) w w') : w.grownBy w' (some g) := ⟨h.os, h.tape, h.output, h.size, fun b hb hF => h.block b hb fun e => hF (by rw [e])⟩
theorem Mv.below {B : Nat} (h : Mv F w w') (hB : B ≤ w.heap.size) (hF : ∀ b, F b → B ≤ b) : Below B w w' := ⟨h.os, h.tape, h.output, h.size, fun b hb => h.block b (Nat.lt_of_lt_of_le hb hB) fun hf => by have := hF b hf; omega⟩
theorem Mv.setCell (w : World) (p : Addr) (u : Value) : Mv (fun b => b = p.block) w (w.setCell p u) := ⟨rfl, rfl, rfl, by simp [World.setCell], fun b _ hF => Below.heap_setCell w p u b hF⟩
theorem Mv.alloc (w : World) (o : Obj) (F : Nat → Prop) : Mv F w (w.alloc o) := Mv.of_new ((Below.refl _ _).alloc (Nat.le_refl _) o) F
theorem Mv.drew (h : Mv F w w') : Mv F w w'.drew := ⟨h.os, h.tape, h.output, h.size, h.block⟩
theorem Blk.mv {g : Nat} {t : TypeId} {cs : Array Value} (h : Blk w g t cs) (hm : Mv F w w') (hg : ¬ F g) : Blk w' g t cs := (hm.block g h.lt hg).trans h
theorem RB.mv {B n c : Nat} {A : Option Addr} {l : List UInt8} (h : RB w B A n c l) (hm : Mv F w w') (hB : B ≤ w.heap.size) (hF : ∀ b, b < B → ¬ F b) : RB w' B A n c l :=
  h.keep fun p hp => World.cell?_of_block (hm.block p.block (Nat.lt_of_lt_of_le hp hB) (hF _ hp))
end
/-- A world that came of w0 by touching blocks of G alone. -/
structure Wd (G : Nat → Prop) (w0 : World) where
  val : World
  ok : Mv G w0 val
instance instWd (G : Nat → Prop) (w0 : World) : Nonempty (Wd G w0) := ⟨⟨w0, Mv.refl _ _⟩⟩
section
variable {P : Program} {Q : Exit → Act → World → Prop} {md : Region.Mode} {t : Nat} {G : Nat → Prop}
/-- A region that draws its order: the class of its worlds is 'touched in G alone'; behind its last operation t nothing is asked. -/
theorem region_mv {id : Nat} {l : List Oper} {a : Act} {w : World} (t : Nat) (G : Nat → Prop) (hm : P.follows .mixedOrders = true)
    (h : wpAnyL P .any l.toArray (NoPanic Q) t (fun x => ∃ v : Wd G w, x = v.val) l.length (Array.replicate l.length false) a w.drew) : (Code.region id l.toArray true).wp P Q a w :=
  wp_region_noPanic (wp_region_any hm (by simpa using wpAny_of_L _ _ _ _ h))
theorem phase_mv {l : List Oper} (hsel : Region.noSelect l.toArray = true) (fuel : Nat) {w0 w : World} (hb : Mv G w0 w) (σ : List Nat) {n : Nat} {listed : Array Bool} {a : Act} (hn : n = σ.length + fuel) (hok : okPhaseL md l t listed σ = true)
    (h : wpQuiet P l.toArray (fun x => ∃ v : Wd G w0, x = v.val) (fun a' => wpAnyL P md l.toArray (NoPanic Q) t (fun x => ∃ v : Wd G w0, x = v.val) fuel (after listed σ) a' w) (picks l σ) a) :
    wpAnyL P md l.toArray (NoPanic Q) t (fun x => ∃ v : Wd G w0, x = v.val) n listed a w := phaseL_of hsel (fun _ _ _ _ _ h => h) fuel w ⟨⟨w, hb⟩, rfl⟩ σ listed a hn hok h
theorem behind_mv {l : List Oper} {fuel : Nat} {listed : Array Bool} {a : Act} {w0 w : World} (hb : Mv G w0 w)
    (h : wpAnyL P md l.toArray Q t (fun x => ∃ v : Wd G w0, x = v.val) fuel listed a w) : Qn (fun a' w' => BehindL P md l Q t (fun x => ∃ v : Wd G w0, x = v.val) fuel listed a' w') Q .normal a w :=
  ⟨_, ⟨⟨w, hb⟩, rfl⟩, fun _ hx => hx, h⟩
theorem phase_endL {S : World → Prop} {l : List Oper} {listed : Array Bool} {a : Act} {w : World} (hr : Region.ready md l.toArray listed = []) (h : Q .normal a w) : wpAnyL P md l.toArray (NoPanic Q) t S 0 listed a w := ⟨hr, NoPanic.normal h⟩
theorem Blk.four_mv {w0 : World} {g : Nat} {ty : TypeId} {a b c d : Value} (h : Blk w0 g ty #[a, b, c, d]) (hg : ¬ G g) : ∀ v : Wd G w0, v.val.cell? ⟨g, 0, none⟩ = some a ∧ v.val.cell? ⟨g, 1, none⟩ = some b ∧ v.val.cell? ⟨g, 2, none⟩ = some c ∧ v.val.cell? ⟨g, 3, none⟩ = some d := fun v => by
  have k := h.mv v.ok hg
  exact ⟨k.cell 0, k.cell 1, k.cell 2, k.cell 3⟩
theorem Blk.three_mv {w0 : World} {g : Nat} {ty : TypeId} {a b c : Value} (h : Blk w0 g ty #[a, b, c]) (hg : ¬ G g) : ∀ v : Wd G w0, v.val.cell? ⟨g, 0, none⟩ = some a ∧ v.val.cell? ⟨g, 1, none⟩ = some b ∧ v.val.cell? ⟨g, 2, none⟩ = some c := fun v => by
  have k := h.mv v.ok hg
  exact ⟨k.cell 0, k.cell 1, k.cell 2⟩
theorem cell_mv {w0 : World} {a : Addr} {x : Value} (h : w0.cell? a = some x) (hg : ¬ G a.block) : ∀ v : Wd G w0, v.val.cell? a = some x := fun v =>
  (World.cell?_of_block (v.ok.block a.block (World.block_lt_of_cell? w0 _ h) hg)).trans h
end
/-- The slice reads as the bytes l; its cells lie in a block of F. -/
structure RBp (w : World) (F : Nat → Prop) (A : Option Addr) (n c : Nat) (l : List UInt8) : Prop where
  len : l.length = n
  le : n ≤ c
  cap : c ≤ 9223372036854775807
  nil : A = none → n = 0 ∧ c = 0
  at_ : 0 < n → ∃ b o, A = some ⟨b, o, none⟩ ∧ F b ∧ b < w.heap.size ∧ ∀ i, i < n → w.cell? ⟨b, o + i, none⟩ = some (.int .u8 ((l.getD i 0).toNat : Int))
structure RVp (w : World) (F : Nat → Prop) (size : Nat) (A : Option Addr) (n c : Nat) (xs : List Value) : Prop where
  len : xs.length = n * size
  le : n ≤ c
  cap : c ≤ 9223372036854775807
  nil : A = none → n = 0 ∧ c = 0
  at_ : 0 < n → ∃ b o, A = some ⟨b, o, none⟩ ∧ F b ∧ b < w.heap.size ∧ ∀ j u, xs[j]? = some u → w.cell? ⟨b, o + j, none⟩ = some u
section
variable {F G : Nat → Prop} {w w' : World} {A : Option Addr} {n c size : Nat} {l : List UInt8} {xs : List Value}
theorem RBp.none_ (w : World) (F : Nat → Prop) : RBp w F none 0 0 [] := ⟨rfl, Nat.le_refl _, by omega, fun _ => ⟨rfl, rfl⟩, fun h => absurd h (by omega)⟩
theorem RVp.none_ (w : World) (F : Nat → Prop) (size : Nat) : RVp w F size none 0 0 [] := ⟨by simp, Nat.le_refl _, by omega, fun _ => ⟨rfl, rfl⟩, fun h => absurd h (by omega)⟩
theorem RBp.rb (h : RBp w F A n c l) : RB w w.heap.size A n c l := ⟨h.len, h.le, h.cap, h.nil, fun hn => by
  obtain ⟨b, o, e, _, hb, hc⟩ := h.at_ hn
  exact ⟨b, o, e, hb, hc⟩⟩
theorem RVp.rv (h : RVp w F size A n c xs) : RV w w.heap.size size A n c xs := ⟨h.len, h.le, h.cap, h.nil, fun hn => by
  obtain ⟨b, o, e, _, hb, hc⟩ := h.at_ hn
  exact ⟨b, o, e, hb, hc⟩⟩
theorem RBp.mono (h : RBp w F A n c l) (hi : ∀ b, b < w.heap.size → F b → G b) : RBp w G A n c l := ⟨h.len, h.le, h.cap, h.nil, fun hn => by
  obtain ⟨b, o, e, hF, hb, hc⟩ := h.at_ hn
  exact ⟨b, o, e, hi b hb hF, hb, hc⟩⟩
theorem RVp.mono (h : RVp w F size A n c xs) (hi : ∀ b, b < w.heap.size → F b → G b) : RVp w G size A n c xs := ⟨h.len, h.le, h.cap, h.nil, fun hn => by
  obtain ⟨b, o, e, hF, hb, hc⟩ := h.at_ hn
  exact ⟨b, o, e, hi b hb hF, hb, hc⟩⟩
theorem RBp.mv (h : RBp w F A n c l) (hm : Mv G w w') (hd : ∀ b, b < w.heap.size → F b → ¬ G b) : RBp w' F A n c l := ⟨h.len, h.le, h.cap, h.nil, fun hn => by
  obtain ⟨b, o, e, hF, hb, hc⟩ := h.at_ hn
  exact ⟨b, o, e, hF, Nat.lt_of_lt_of_le hb hm.size, fun i hi => (World.cell?_of_block (hm.block b hb (hd b hb hF))).trans (hc i hi)⟩⟩
theorem RVp.mv (h : RVp w F size A n c xs) (hm : Mv G w w') (hd : ∀ b, b < w.heap.size → F b → ¬ G b) : RVp w' F size A n c xs := ⟨h.len, h.le, h.cap, h.nil, fun hn => by
  obtain ⟨b, o, e, hF, hb, hc⟩ := h.at_ hn
  exact ⟨b, o, e, hF, Nat.lt_of_lt_of_le hb hm.size, fun j u hu => (World.cell?_of_block (hm.block b hb (hd b hb hF))).trans (hc j u hu)⟩⟩
theorem RBp.below (h : RBp w F A n c l) (hb : Below w.heap.size w w') : RBp w' F A n c l := h.mv (Mv.of_new hb fun _ => False) fun _ _ _ h => h
theorem RVp.below (h : RVp w F size A n c xs) (hb : Below w.heap.size w w') : RVp w' F size A n c xs := h.mv (Mv.of_new hb fun _ => False) fun _ _ _ h => h
theorem OB.rbp {base : Nat} (h : OB w base A n c l) (hF : ∀ k, (Value.slice A n c).ownBlock = some k → F k) : RBp w F A n c l := by
  have hr := h.rb
  refine ⟨hr.len, hr.le, hr.cap, hr.nil, fun hn => ?_⟩
  obtain ⟨b, o, rfl, hb, hc⟩ := hr.at_ hn
  obtain ⟨g, e, _, _⟩ := h.head hn
  exact ⟨b, o, rfl, hF b (by injection e with e; injection e with e1 _; simp [Value.ownBlock]), hb, hc⟩
theorem OV.rvp {base e : Nat} (h : OV w base e size A n c xs) (hF : ∀ k, (Value.slice A n c).ownBlock = some k → F k) : RVp w F size A n c xs := by
  have hr := h.rv
  refine ⟨hr.len, hr.le, hr.cap, hr.nil, fun hn => ?_⟩
  obtain ⟨b, o, rfl, hb, hc⟩ := hr.at_ hn
  exact ⟨b, o, rfl, hF b (by simp [Value.ownBlock]), hb, hc⟩
/-- 'x[:k]', whatever its capacity becomes. -/
theorem RVp.take (h : RVp w F size A n c xs) {k : Nat} (hk : k ≤ n) {c' : Nat} (hc' : c' ≤ c) (hkc : k ≤ c') : RVp w F size A k c' (xs.take (k * size)) := by
  have hm := Nat.mul_le_mul_right size hk
  refine ⟨by rw [List.length_take, h.len]; omega, hkc, Nat.le_trans hc' h.cap, fun e => ?_, fun hn => ?_⟩
  · have := h.nil e; omega
  · obtain ⟨b, o, rfl, hF, hb, hc⟩ := h.at_ (by omega)
    refine ⟨b, o, rfl, hF, hb, fun j u hu => ?_⟩
    rw [List.getElem?_take] at hu
    split at hu
    · exact hc j u hu
    · cases hu
/-- 'x[k:]' -/
theorem RVp.drop (h : RVp w F size A n c xs) {k : Nat} (hk : k ≤ n) : RVp w F size (if c = k then A else A.map (·.add (k * size))) (n - k) (c - k) (xs.drop (k * size)) := by
  refine ⟨by rw [List.length_drop, h.len, Nat.sub_mul], by have := h.le; omega, by have := h.cap; omega, fun e => ?_, fun hn => ?_⟩
  · have hA : A = none := by
      split at e
      · exact e
      · simpa using e
    have := h.nil hA; omega
  · obtain ⟨b, o, rfl, hF, hb, hc⟩ := h.at_ (by omega)
    rw [if_neg (by have := h.le; omega)]
    refine ⟨b, o + k * size, by simp [Addr.add_lit], hF, hb, fun j u hu => ?_⟩
    rw [Nat.add_assoc]
    exact hc _ u (by rw [← hu, List.getElem?_drop])
end
section
variable {P : Program} {T E size bytes : Nat} {z : Value}
theorem run_sizeOf (ht : ET P T E size bytes z) (w : World) : (sizeOf E).run P w = .ok size w := by
  obtain ⟨i, hi, _, hs, _⟩ := ht.info
  simp [sizeOf, typeInfo, hi, hs]
theorem et_elem (ht : ET P T E size bytes z) : P.elem T = E := by
  have := ht.sl
  simp [Program.elem, this]
/-- 'x[k:]' -/
theorem run_cut_rest (ht : ET P T E size bytes z) (A : Option Addr) (n c k : Nat) (hk : k ≤ n) (kd : IntKind) (w : World) :
    (Instr.slice T (.slice A n c) (some (.int kd (k : Int))) none none).run P w = .ok (.slice (if c = k then A else A.map (·.add (k * size))) (n - k) (c - k)) w := by
  have hT : P.underlying T = some (.slice (P.elem T)) := by rw [et_elem ht]; exact ht.sl
  rw [run_slice_l w T A n c hT kd (k : Int) (by omega) (by omega), et_elem ht, run_sizeOf ht]
  simp [Result.andThen, sliced]
/-- 'x[:k:k]' -/
theorem run_cut_full (ht : ET P T E size bytes z) (A : Option Addr) (n c k : Nat) (hk : k ≤ c) (kd kd' : IntKind) (w : World) :
    (Instr.slice T (.slice A n c) none (some (.int kd (k : Int))) (some (.int kd' (k : Int)))).run P w = .ok (.slice A k k) w := by
  have hT : P.underlying T = some (.slice (P.elem T)) := by rw [et_elem ht]; exact ht.sl
  rw [run_slice_hm w T A n c hT kd kd' (k : Int) (k : Int) (by omega) (by omega) (by omega), et_elem ht, run_sizeOf ht]
  cases A <;> simp [Result.andThen, sliced, Addr.add]
/-- 'x[:k]' -/
theorem run_cut_head (ht : ET P T E size bytes z) (A : Option Addr) (n c k : Nat) (hk : k ≤ c) (kd : IntKind) (w : World) :
    (Instr.slice T (.slice A n c) none (some (.int kd (k : Int))) none).run P w = .ok (.slice A k c) w := by
  have hT : P.underlying T = some (.slice (P.elem T)) := by rw [et_elem ht]; exact ht.sl
  rw [run_slice_h w T A n c hT kd (k : Int) (by omega) (by omega), et_elem ht, run_sizeOf ht]
  cases A <;> simp [Result.andThen, sliced, Addr.add]
end
end Go.Proofs.YtbmocffnnlfnjaaGreat
/-
  A dictionary in memory, with its footprint.
  Conditions: none.
-/
namespace Go.Proofs.YtbmocffnnlfnjaaGreat
set_option linter.unusedVariables false
set_option linter.unusedSimpArgs false
open Go.RowKit
theorem eten : ET Tryz.prog 22 63 11 104 (.agg #[.int .i64 0, .int .i64 0, .string ⟨#[]⟩, .int .i64 0, .int .i64 0, .bool false, .bool false, .int .i64 0, .int .i64 0, .int .i64 0, .slice none 0 0]) := ⟨Tryz.underlying22, info_parts (by kernel_rfl), rfl, by decide⟩
theorem etbs : ET Tryz.prog 64 49 1 24 (.slice none 0 0) := ⟨Tryz.underlying64, info_parts (by kernel_rfl), rfl, by decide⟩
/-- The cells of an entry; its bytes in blocks of F. -/
def EnP (w : World) (F : Nat → Prop) (e : Ent.En) (cs : List Value) : Prop := ∃ A n c, cs = enL e A n c ∧ RBp w F A n c e.dflt
/-- The cell of some bytes. -/
def ByP (w : World) (F : Nat → Prop) (b : List UInt8) (cs : List Value) : Prop := ∃ A n c, cs = [.slice A n c] ∧ RBp w F A n c b
section
variable {F G : Nat → Prop} {w w' : World} {e : Ent.En} {b : List UInt8} {cs : List Value}
theorem EnP.mv (h : EnP w F e cs) (hm : Mv G w w') (hd : ∀ b, b < w.heap.size → F b → ¬ G b) : EnP w' F e cs := by
  obtain ⟨A, n, c, h1, h2⟩ := h
  exact ⟨A, n, c, h1, h2.mv hm hd⟩
theorem EnP.mono (h : EnP w F e cs) (hi : ∀ b, b < w.heap.size → F b → G b) : EnP w G e cs := by
  obtain ⟨A, n, c, h1, h2⟩ := h
  exact ⟨A, n, c, h1, h2.mono hi⟩
theorem ByP.mv (h : ByP w F b cs) (hm : Mv G w w') (hd : ∀ b, b < w.heap.size → F b → ¬ G b) : ByP w' F b cs := by
  obtain ⟨A, n, c, h1, h2⟩ := h
  exact ⟨A, n, c, h1, h2.mv hm hd⟩
theorem ByP.mono (h : ByP w F b cs) (hi : ∀ b, b < w.heap.size → F b → G b) : ByP w G b cs := by
  obtain ⟨A, n, c, h1, h2⟩ := h
  exact ⟨A, n, c, h1, h2.mono hi⟩
end
/-- Blocks of F but two. -/
def Fx (F : Nat → Prop) (g gv : Nat) : Nat → Prop := fun b => F b ∧ b ≠ g ∧ b ≠ gv
/-- A dictionary at block g, its values' row at block gv; t: the type of its block. -/
structure DRt (t : TypeId) (w : World) (F : Nat → Prop) (g gv : Nat) (lA : Option Addr) (lc : Nat) (vA : Option Addr) (vc : Nat) (xs vs : List Value) (D : Dc.Dic) : Prop where
  fg : F g
  ne : g ≠ gv
  blk : Blk w g t #[.slice lA D.l.length lc, .slice vA D.l.length vc]
  row : RVp w (Fx F g gv) 11 lA D.l.length lc xs
  rows : Rows (EnP w (Fx F g gv)) 11 D.l xs
  own : OV w 0 49 1 vA D.l.length vc vs
  at_ : ∀ k, (Value.slice vA D.l.length vc).ownBlock = some k → k = gv ∧ F gv
  vals : Rows (ByP w (Fx F g gv)) 1 D.v vs
  len : D.v.length = D.l.length
  ord : Dc.Ord D.l
  few : D.l.length ≤ 96
  right : ∀ e ∈ D.l, Ent.rightS e = 0
section
variable {t : TypeId} {F G : Nat → Prop} {w w' : World} {g gv lc vc : Nat} {lA vA : Option Addr} {xs vs : List Value} {D : Dc.Dic}
theorem DRt.mv (h : DRt t w F g gv lA lc vA vc xs vs D) (hm : Mv G w w') (hd : ∀ b, b < w.heap.size → F b → ¬ G b) : DRt t w' F g gv lA lc vA vc xs vs D :=
  have hx : ∀ b, b < w.heap.size → Fx F g gv b → ¬ G b := fun b hb hf => hd b hb hf.1
  { fg := h.fg, ne := h.ne, blk := h.blk.mv hm (hd g h.blk.lt h.fg), row := h.row.mv hm hx, rows := h.rows.imp fun _ _ k => k.mv hm hx
    own := by
      refine ⟨h.own.1, ?_⟩
      rcases h.own.2 with h2 | ⟨k, cap, cur, hv, hg, hh, r⟩
      · exact .inl h2
      · have hk := h.at_ k (by rw [hv]; rfl)
        have hlt : k < w.heap.size := (Array.getElem?_eq_some_iff.1 hh).1
        exact .inr ⟨k, cap, cur, hv, hg, (hm.block k hlt (hd k hlt (by rw [hk.1]; exact hk.2))).trans hh, r⟩
    at_ := h.at_, vals := h.vals.imp fun _ _ k => k.mv hm hx, len := h.len, ord := h.ord, few := h.few, right := h.right }
theorem DRt.below (h : DRt t w F g gv lA lc vA vc xs vs D) (hb : Below w.heap.size w w') : DRt t w' F g gv lA lc vA vc xs vs D := h.mv (Mv.of_new hb fun _ => False) fun _ _ _ h => h
theorem DRt.mono (h : DRt t w F g gv lA lc vA vc xs vs D) (hi : ∀ b, b < w.heap.size → F b → G b) : DRt t w G g gv lA lc vA vc xs vs D :=
  have hx : ∀ b, b < w.heap.size → Fx F g gv b → Fx G g gv b := fun b hb hf => ⟨hi b hb hf.1, hf.2⟩
  { fg := hi g h.blk.lt h.fg, ne := h.ne, blk := h.blk, row := h.row.mono hx, rows := h.rows.imp fun _ _ k => k.mono hx, own := h.own
    at_ := fun k hk => ⟨(h.at_ k hk).1, hi gv (by have := (h.own.lt k hk).2; rw [(h.at_ k hk).1] at this; exact this) (h.at_ k hk).2⟩
    vals := h.vals.imp fun _ _ k => k.mono hx, len := h.len, ord := h.ord, few := h.few, right := h.right }
theorem Rows.set_one {α : Type} {R : α → List Value → Prop} {fs : List α} {xs : List Value} (h : Rows R 1 fs xs) {k : Nat} {f : α} {u : Value} (hk : k < fs.length) (hf : R f [u]) : Rows R 1 (fs.set k f) (xs.set k u) := by
  have hl := h.len
  refine ⟨by rw [List.length_set, List.length_set]; exact hl, fun i f' hi => ?_⟩
  rw [List.getElem?_set] at hi
  split at hi
  · rename_i e
    subst e
    first | (rw [if_pos hk] at hi) | skip
    injection hi with hi
    subst hi
    have : ((xs.set k u).drop (k * 1)).take 1 = [u] := by
      have hlt : k < (xs.set k u).length := by rw [List.length_set]; omega
      rw [Nat.mul_one, List.drop_eq_getElem_cons hlt, List.take_succ_cons, List.take_zero, List.getElem_set_self]
    rw [this]
    exact hf
  · rename_i e
    have h1 := h.2 i f' hi
    have : ((xs.set k u).drop (i * 1)).take 1 = (xs.drop (i * 1)).take 1 := by
      apply List.ext_getElem?
      intro j
      rw [List.getElem?_take, List.getElem?_take]
      split
      · rw [List.getElem?_drop, List.getElem?_drop, List.getElem?_set_ne (by omega)]
      · rfl
    rw [this]
    exact h1
/-- A value is set: in place, with bytes that were made. -/
theorem DRt.put {w1 : World} {k n c : Nat} {A : Option Addr} {b : List UInt8} (h : DRt t w F g gv lA lc vA vc xs vs D) (hk : k < D.l.length) (hb : Below w.heap.size w w1) (ho : OB w1 w.heap.size A n c b) :
    DRt t (w1.setCell ⟨gv, k, none⟩ (.slice A n c)) (fun q => F q ∨ (w.heap.size ≤ q ∧ q < w1.heap.size)) g gv lA lc vA vc xs (vs.set k (.slice A n c)) ⟨D.l, D.v.set k b⟩ := by
  have hA : ∃ q, vA = some ⟨q, 0, none⟩ ∧ q < w.heap.size := by
    obtain ⟨q, e, _, hq⟩ := h.own.head (by omega)
    exact ⟨q, e, hq⟩
  obtain ⟨q, rfl, hq⟩ := hA
  obtain ⟨rfl, hFq⟩ := h.at_ q rfl
  have hgl := h.blk.lt
  have h1 := (h.below hb).mono (G := fun q => F q ∨ (w.heap.size ≤ q ∧ q < w1.heap.size)) fun _ _ hf => .inl hf
  have hm : Mv (fun b => b = q) w1 (w1.setCell ⟨q, k, none⟩ (.slice A n c)) := Mv.setCell w1 ⟨q, k, none⟩ _
  have hx : ∀ b, b < w1.heap.size → Fx (fun q => F q ∨ (w.heap.size ≤ q ∧ q < w1.heap.size)) g q b → ¬ b = q := fun b _ hf => hf.2.2
  refine { fg := h1.fg, ne := h1.ne, blk := h1.blk.mv hm h1.ne, row := h1.row.mv hm hx, rows := h1.rows.imp fun _ _ k => k.mv hm hx, own := (h1.own.set k (.slice A n c)).1, at_ := h1.at_, vals := ?_, len := by rw [List.length_set]; exact h1.len, ord := h1.ord, few := h1.few, right := h1.right }
  refine Rows.set_one (h1.vals.imp fun _ _ k => k.mv hm hx) (by rw [h.len]; exact hk) ⟨A, n, c, rfl, ?_⟩
  have hr : RBp w1 (Fx (fun q => F q ∨ (w.heap.size ≤ q ∧ q < w1.heap.size)) g q) A n c b := ho.rbp fun j hj => by
    have h5 := ho.lt j hj
    exact ⟨.inr h5, by omega, by omega⟩
  exact hr.mv hm hx
theorem DRt.two (h : DRt t w F g gv lA lc vA vc xs vs D) : w.cell? ⟨g, 0, none⟩ = some (.slice lA D.l.length lc) ∧ w.cell? ⟨g, 1, none⟩ = some (.slice vA D.l.length vc) := ⟨h.blk.cell 0, h.blk.cell 1⟩
theorem DRt.lcap (h : DRt t w F g gv lA lc vA vc xs vs D) : D.l.length ≤ lc ∧ lc ≤ 9223372036854775807 := ⟨h.row.le, h.row.cap⟩
/-- An entry's cells. -/
theorem DRt.entry (h : DRt t w F g gv lA lc vA vc xs vs D) {i : Nat} (hi : i < D.l.length) : ∃ b o A n c, lA = some ⟨b, o, none⟩ ∧ b < w.heap.size ∧ RB w w.heap.size A n c (D.l.getD i Dc.en0).dflt ∧
    ∀ j u, (enL (D.l.getD i Dc.en0) A n c)[j]? = some u → w.cell? ⟨b, o + i * 11 + j, none⟩ = some u := by
  obtain ⟨b, o, rfl, hF, hb, hc⟩ := h.row.at_ (by omega)
  have hf : D.l[i]? = some (D.l.getD i Dc.en0) := by simp [List.getD, List.getElem?_eq_getElem hi]
  obtain ⟨A, n, c, e, hr⟩ := h.rows.2 i _ hf
  refine ⟨b, o, A, n, c, rfl, hb, hr.rb, fun j u hu => ?_⟩
  rw [← e, List.getElem?_take] at hu
  split at hu
  · rw [List.getElem?_drop] at hu
    rw [Nat.add_assoc]
    exact hc _ u hu
  · cases hu
/-- A value's cell. -/
theorem DRt.value (h : DRt t w F g gv lA lc vA vc xs vs D) {i : Nat} (hi : i < D.l.length) : ∃ A n c, vA = some ⟨gv, 0, none⟩ ∧ F gv ∧ gv < w.heap.size ∧ RB w w.heap.size A n c (D.v.getD i []) ∧ w.cell? ⟨gv, i, none⟩ = some (.slice A n c) ∧ w.frozen? ⟨gv, i, none⟩ = false := by
  obtain ⟨q, rfl, _, hq⟩ := h.own.head (by omega)
  obtain ⟨e1, e2⟩ := h.at_ q (by rfl)
  subst e1
  have hi' : i < D.v.length := by rw [h.len]; exact hi
  have hf : D.v[i]? = some (D.v.getD i []) := by simp [List.getD, List.getElem?_eq_getElem hi']
  obtain ⟨A, n, c, e, hr⟩ := h.vals.2 i _ hf
  refine ⟨A, n, c, rfl, e2, hq, hr.rb, ?_, h.own.free i⟩
  obtain ⟨b, o, e3, _, hc⟩ := h.own.rv.at_ (by omega)
  injection e3 with e3
  injection e3 with e3 e4
  subst e3 e4
  have hu : vs[i]? = some (.slice A n c) := by
    have h0 : ((vs.drop (i * 1)).take 1)[0]? = some (Value.slice A n c) := by rw [e]; rfl
    rw [List.getElem?_take, List.getElem?_drop] at h0
    simpa using h0
  have := hc i _ hu
  rwa [Nat.zero_add] at this
end
end Go.Proofs.YtbmocffnnlfnjaaGreat
/-
  Walks: Before of layer 14, and its reference.
  Conditions: none.
-/
namespace Go.Proofs.YtbmocffnnlfnjaaGreat
set_option linter.unusedVariables false
set_option linter.unusedSimpArgs false
open Go.RowKit
set_option maxRecDepth 100000 in
set_option maxHeartbeats 4000000 in
theorem Before_any (e e' : Ent.En) (A A' : Option Addr) (n c n' c' : Nat) (w : World) : Calls Tryz.prog 31 #[enV e A n c, enV e' A' n' c'] w fun x w' => x = .returned (.bool (Ent.befB e e')) ∧ Below w.heap.size w w' := by
  obtain ⟨ix, sb, nm, ty, ac, mp, st, mx, lo, hi, df⟩ := e
  unfold enV
  dsimp only
  obtain ⟨ix', sb', nm', ty', ac', mp', st', mx', lo', hi', df'⟩ := e'
  dsimp only
  by_cases h1 : ix = ix'
  · subst h1
    have hv : Ent.befB ⟨ix, sb, nm, ty, ac, mp, st, mx, lo, hi, df⟩ ⟨ix, sb', nm', ty', ac', mp', st', mx', lo', hi', df'⟩ = decide (sb < sb') := if_pos rfl
    rw [hv]
    have e1 : (ix != ix) = false := by simp
    have e2 : (ix == ix) = true := by simp
    have e3 : decide (ix < ix) = false := decide_eq_false (by omega)
    clear hv
    by_cases h2 : sb < sb'
    all_goals
      go_enter Tryz.func31, Tryz.ntmps31
      go_wp2_with fail
      go_ret
      exact ⟨ret_bool (by simp [h2] <;> omega), alloc_two _ _ _⟩
  · have hv : Ent.befB ⟨ix, sb, nm, ty, ac, mp, st, mx, lo, hi, df⟩ ⟨ix', sb', nm', ty', ac', mp', st', mx', lo', hi', df'⟩ = decide (ix < ix') := if_neg h1
    rw [hv]
    have e1 : (ix != ix') = true := by simpa using h1
    have e2 : (ix == ix') = false := beq_false_of_ne h1
    clear hv
    by_cases h2 : ix < ix'
    · have e3 : decide (ix < ix') = true := decide_eq_true h2
      clear h1
      go_enter Tryz.func31, Tryz.ntmps31
      go_wp2_with fail
      go_ret
      exact ⟨ret_bool (by simp [h2]), alloc_two _ _ _⟩
    · have e3 : decide (ix < ix') = false := decide_eq_false h2
      clear h1
      go_enter Tryz.func31, Tryz.ntmps31
      go_wp2_with fail
      go_ret
      exact ⟨ret_bool (by simp [h2]), alloc_two _ _ _⟩
set_option maxRecDepth 100000 in
set_option maxHeartbeats 4000000 in
theorem RBefore_any (e e' : Ent.En) (A A' : Option Addr) (n c n' c' : Nat) (w : World) : Calls Tryz.prog 35 #[enV e A n c, enV e' A' n' c'] w fun x w' => x = .returned (.bool (Ent.befB e e')) ∧ Below w.heap.size w w' := by
  obtain ⟨ix, sb, nm, ty, ac, mp, st, mx, lo, hi, df⟩ := e
  unfold enV
  dsimp only
  obtain ⟨ix', sb', nm', ty', ac', mp', st', mx', lo', hi', df'⟩ := e'
  dsimp only
  by_cases h1 : ix = ix'
  · subst h1
    have hv : Ent.befB ⟨ix, sb, nm, ty, ac, mp, st, mx, lo, hi, df⟩ ⟨ix, sb', nm', ty', ac', mp', st', mx', lo', hi', df'⟩ = decide (sb < sb') := if_pos rfl
    rw [hv]
    have e1 : (ix != ix) = false := by simp
    have e2 : (ix == ix) = true := by simp
    have e3 : decide (ix < ix) = false := decide_eq_false (by omega)
    clear hv
    by_cases h2 : sb < sb'
    all_goals
      go_enter Tryz.func35, Tryz.ntmps35
      go_wp2_with fail
      go_ret
      exact ⟨ret_bool (by simp [h2] <;> omega), alloc_two _ _ _⟩
  · have hv : Ent.befB ⟨ix, sb, nm, ty, ac, mp, st, mx, lo, hi, df⟩ ⟨ix', sb', nm', ty', ac', mp', st', mx', lo', hi', df'⟩ = decide (ix < ix') := if_neg h1
    rw [hv]
    have e1 : (ix != ix') = true := by simpa using h1
    have e2 : (ix == ix') = false := beq_false_of_ne h1
    clear hv
    by_cases h2 : ix < ix'
    · have e3 : decide (ix < ix') = true := decide_eq_true h2
      clear h1
      go_enter Tryz.func35, Tryz.ntmps35
      go_wp2_with fail
      go_ret
      exact ⟨ret_bool (by simp [h2]), alloc_two _ _ _⟩
    · have e3 : decide (ix < ix') = false := decide_eq_false h2
      clear h1
      go_enter Tryz.func35, Tryz.ntmps35
      go_wp2_with fail
      go_ret
      exact ⟨ret_bool (by simp [h2]), alloc_two _ _ _⟩
end Go.Proofs.YtbmocffnnlfnjaaGreat
