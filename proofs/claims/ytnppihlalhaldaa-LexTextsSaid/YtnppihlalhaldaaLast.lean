/-
  A region that draws its order, whose last operation writes to what the region reads: behind operation t the class of worlds is not asked for.
  Conditions: none.
-/
import Derived.Test.YtnppihlalhaldaaPhase
namespace Go.Proofs.Ytnppihlalhaldaa
set_option linter.unusedVariables false
set_option linter.unusedSimpArgs false
open Go.RowKit Go.Sort
section
variable {P : Program} {ops : Array Oper} {Q : Exit → Act → World → Prop} {md : Region.Mode} {S S' : World → Prop} {t : Nat}
def wpAnyL (P : Program) (md : Region.Mode) (ops : Array Oper) (Q : Exit → Act → World → Prop) (t : Nat) (S : World → Prop) : Nat → Array Bool → Act → World → Prop
  | 0, listed, a, w => Region.ready md ops listed = [] ∧ Q .normal a w
  | fuel + 1, listed, a, w =>
    (Region.ready md ops listed = [] → Q .normal a w) ∧
    ∀ i ∈ Region.ready md ops listed, wpOp P ops Q i (fun a' w' => (i = t ∨ S w') ∧ wpAnyL P md ops Q t S fuel (listed.setIfInBounds i true) a' w') a w
theorem wpAny_of_L : ∀ (fuel : Nat) (listed : Array Bool) (a : Act) (w : World), wpAnyL P md ops Q t S fuel listed a w → wpAny P md ops Q fuel listed a w
  | 0, _, _, _, h => h
  | fuel + 1, _, _, _, h => ⟨h.1, fun i hi => wpOp_mono (fun a' w' h' => wpAny_of_L fuel _ a' w' h'.2) (h.2 i hi)⟩
theorem heldL_mono (hS : ∀ w, S' w → S w) : ∀ (fuel : Nat) (listed : Array Bool) (a : Act) (w : World), wpAnyL P md ops Q t S' fuel listed a w → wpAnyL P md ops Q t S fuel listed a w
  | 0, _, _, _, h => h
  | fuel + 1, _, _, _, h => ⟨h.1, fun i hi => wpOp_mono (fun a' w' h' => ⟨h'.1.imp id (hS _), heldL_mono hS fuel _ a' w' h'.2⟩) (h.2 i hi)⟩
/-- Operation t waits for operation i. -/
def waits (md : Region.Mode) (ops : Array Oper) (t i : Nat) : Bool := match ops[t]? with
  | some o => o.after.any fun e => Region.binds md e && e.on == i
  | none => true
theorem waits_spec {i : Nat} {o : Oper} (h : waits md ops t i = true) (ho : ops[t]? = some o) : ∃ e ∈ o.after, Region.binds md e = true ∧ e.on = i := by
  unfold waits at h
  rw [ho] at h
  simp only [Array.any_eq_true', Bool.and_eq_true, beq_iff_eq] at h
  obtain ⟨e, he, h1, h2⟩ := h
  exact ⟨e, he, h1, h2⟩
theorem wpAnyL_first {i : Nat} {oi : Oper} {v : Value} (hi : ops[i]? = some oi) (hT : waits md ops t i = true) (hsel : ∀ (j : Nat) (o : Oper) cs b, ops[j]? = some o → o.op ≠ .select cs b)
    (hQ : ∀ c a w, Q (.panic c) (a.put oi.dst v) w → Q (.panic c) a w) :
    ∀ (fuel : Nat) (listed : Array Bool) (a : Act) (w : World),
      (∀ j oj, ops[j]? = some oj → j ≠ i → listed.getD j true = false → (∀ e ∈ oj.after, Region.binds md e = true → e.on ≠ i) → oi.apart ops oj = true) →
      i ∈ Region.ready md ops listed → YieldsIf P ops S oi v a → S w →
      wpAnyL P md ops Q t S fuel (listed.setIfInBounds i true) (a.put oi.dst v) w → wpAnyL P md ops Q t S (fuel + 1) listed a w := by
  intro fuel
  induction fuel with
  | zero =>
    intro listed a w _ hr hy hS H
    refine ⟨fun h => (by rw [h] at hr; cases hr), fun j hj => ?_⟩
    by_cases hji : j = i
    · subst hji; exact hy.wpOp hi hS ⟨.inr hS, H⟩
    · have := ready_mono hj hji
      rw [H.1] at this
      cases this
  | succ fuel ih =>
    intro listed a w hfree hr hy hS H
    refine ⟨fun h => (by rw [h] at hr; cases hr), fun j hj => ?_⟩
    by_cases hji : j = i
    · subst hji; exact hy.wpOp hi hS ⟨.inr hS, H⟩
    · have h1 := H.2 j (ready_mono hj hji)
      obtain ⟨hjun, oj, hoj, hall⟩ := mem_ready.1 hj
      have hnot : ∀ e ∈ oj.after, Region.binds md e = true → e.on ≠ i := fun e he hb heq => by
        have h1 := hall e he hb
        have h0 := (mem_ready.1 hr).1
        rw [heq] at h1
        rcases Nat.lt_or_ge i listed.size with h' | h'
        · simp [h'] at h0 h1; rw [h0] at h1; cases h1
        · simp [Array.getElem?_eq_none h'] at h1
      have hjt : j ≠ t := fun e => by
        subst e
        obtain ⟨e, he, hb, heq⟩ := waits_spec hT hoj
        exact hnot e he hb heq
      have h2 := wpOp_putIf hoj (hfree j oj hoj hji hjun hnot) (fun cs b => hsel i oi cs b hi) (fun cs b => hsel j oj cs b hoj) hQ hy h1
      have hfree' : ∀ k ok, ops[k]? = some ok → k ≠ i → (listed.setIfInBounds j true).getD k true = false →
          (∀ e ∈ ok.after, Region.binds md e = true → e.on ≠ i) → oi.apart ops ok = true := fun k ok hk hki hun hno => by
        refine hfree k ok hk hki ?_ hno
        by_cases hjk : j = k
        · subst hjk; exact hjun
        · rw [getD_set_ne true hjk] at hun; exact hun
      refine wpOp_mono (fun a' w' h3 => ?_) h2
      have hS' : S w' := h3.2.1.resolve_left hjt
      refine ⟨.inr hS', ih (listed.setIfInBounds j true) a' w' hfree' (ready_mono hr (Ne.symm hji)) h3.1 hS' ?_⟩
      rw [Array.setIfInBounds_comm _ _ hji]
      exact h3.2.2
def okPhaseL (md : Region.Mode) (l : List Oper) (t : Nat) : Array Bool → List Nat → Bool
  | _, [] => true
  | listed, i :: σ => decide (i < l.length) && waits md l.toArray t i && (Region.ready md l.toArray listed).contains i && Region.free md l.toArray listed i && calm (nth l i) && okPhaseL md l t (listed.setIfInBounds i true) σ
theorem phaseL_of {l : List Oper} (hsel : Region.noSelect l.toArray = true) (hQ : ∀ c a d v w, Q (.panic c) (Act.put a d v) w → Q (.panic c) a w) (fuel : Nat) (w : World) (hS : S w) :
    ∀ (σ : List Nat) {n : Nat} (listed : Array Bool) (a : Act), n = σ.length + fuel → okPhaseL md l t listed σ = true →
      wpQuiet P l.toArray S (fun a' => wpAnyL P md l.toArray Q t S fuel (after listed σ) a' w) (picks l σ) a → wpAnyL P md l.toArray Q t S n listed a w
  | [], n, listed, a, hn, _, h => by
    obtain rfl : n = fuel := by simpa using hn
    exact h
  | i :: σ, n, listed, a, hn, hok, h => by
    obtain rfl : n = (σ.length + fuel) + 1 := by simp at hn; omega
    simp only [okPhaseL, Bool.and_eq_true, decide_eq_true_eq] at hok
    obtain ⟨⟨⟨⟨⟨hi, hT⟩, hr⟩, hf⟩, hc⟩, hrest⟩ := hok
    have ho : l.toArray[i]? = some (nth l i) := by rw [List.getElem?_toArray]; exact nth_some l i hi
    simp only [picks, wpQuiet] at h
    have step : ∀ v, YieldsIf P l.toArray S (nth l i) v a → wpQuiet P l.toArray S (fun a' => wpAnyL P md l.toArray Q t S fuel (after (listed.setIfInBounds i true) σ) a' w) (picks l σ) (a.put (nth l i).dst v) →
        wpAnyL P md l.toArray Q t S ((σ.length + fuel) + 1) listed a w := fun v hy hk =>
      wpAnyL_first ho hT (Region.noSelect_spec hsel) (fun c a w => hQ c a _ _ w) (σ.length + fuel) listed a w (Region.free_spec ho hf) (by simpa using hr) hy hS
        (phaseL_of hsel hQ fuel w hS σ _ _ rfl hrest hk)
    by_cases hw : Region.wanted (nth l i) (yielded l.toArray a.tmps) = true
    · rw [if_pos hw] at h
      obtain ⟨v, hv, hk⟩ := yields_of_quiet hc hS h
      exact step v (.inl ⟨hw, hv⟩) hk
    · rw [if_neg hw] at h
      exact step undef (.inr ⟨by simpa using hw, rfl⟩) h
def BehindL (P : Program) (md : Region.Mode) (l : List Oper) (Q : Exit → Act → World → Prop) (t : Nat) (S : World → Prop) (fuel : Nat) (listed : Array Bool) (a : Act) (w : World) : Prop :=
  ∃ S' : World → Prop, S' w ∧ (∀ x, S' x → S x) ∧ wpAnyL P md l.toArray Q t S' fuel listed a w
theorem phase_opL {l : List Oper} (i : Nat) {n : Nat} (fuel : Nat) {listed : Array Bool} {a : Act} {w : World} (hn : n = fuel + 1) (hr : Region.ready md l.toArray listed = [i]) (hi : i < l.length)
    (h : wpList P l.toArray (Qn (fun a' w' => BehindL P md l Q t S fuel (listed.setIfInBounds i true) a' w') Q) [nth l i] a w) : wpAnyL P md l.toArray Q t S n listed a w := by
  subst hn
  have ho : l.toArray[i]? = some (nth l i) := by rw [List.getElem?_toArray]; exact nth_some l i hi
  refine ⟨(fun h0 => by rw [hr] at h0; cases h0), fun j hj => ?_⟩
  rw [hr] at hj
  obtain rfl : j = i := by simpa using hj
  have fin : ∀ a' w', BehindL P md l Q t S fuel (listed.setIfInBounds j true) a' w' → (j = t ∨ S w') ∧ wpAnyL P md l.toArray Q t S fuel (listed.setIfInBounds j true) a' w' := fun a' w' ⟨S', h1, h2, h3⟩ => ⟨.inr (h2 _ h1), heldL_mono h2 _ _ _ _ h3⟩
  refine wpOp_mono fin ?_
  unfold wpOp
  simp only [ho]
  simp only [wpList] at h
  by_cases hw : Region.wanted (nth l j) (yielded l.toArray a.tmps) = true
  · rw [if_pos hw] at h ⊢
    rcases h with h | ⟨h1, a0, w0, h2⟩
    · exact .inl h
    · exact .inr ⟨h1, a0, w0, h2⟩
  · rw [if_neg hw] at h ⊢
    exact h
/-- The last operation. -/
theorem phase_last {l : List Oper} {n : Nat} (fuel : Nat) {listed : Array Bool} {a : Act} {w : World} (hn : n = fuel + 1) (hr : Region.ready md l.toArray listed = [t]) (hi : t < l.length) (hd : Region.ready md l.toArray (listed.setIfInBounds t true) = [])
    (h : wpList P l.toArray (Qn (fun a' w' => Q .normal a' w') (NoPanic Q)) [nth l t] a w) : wpAnyL P md l.toArray (NoPanic Q) t S n listed a w := by
  subst hn
  have ho : l.toArray[t]? = some (nth l t) := by rw [List.getElem?_toArray]; exact nth_some l t hi
  refine ⟨(fun h0 => by rw [hr] at h0; cases h0), fun j hj => ?_⟩
  rw [hr] at hj
  obtain rfl : j = t := by simpa using hj
  have done : ∀ a' w', Q .normal a' w' → (j = j ∨ S w') ∧ wpAnyL P md l.toArray (NoPanic Q) j S fuel (listed.setIfInBounds j true) a' w' := fun a' w' hq => by
    refine ⟨.inl rfl, ?_⟩
    cases fuel with
    | zero => exact ⟨hd, NoPanic.normal hq⟩
    | succ k => exact ⟨fun _ => NoPanic.normal hq, by rw [hd]; simp⟩
  have hm : wpOp P l.toArray (NoPanic Q) j (fun a' w' => Q .normal a' w') a w := by
    unfold wpOp
    simp only [ho]
    simp only [wpList] at h
    by_cases hw : Region.wanted (nth l j) (yielded l.toArray a.tmps) = true
    · rw [if_pos hw] at h ⊢
      rcases h with h | ⟨h1, a0, w0, h2⟩
      · exact .inl h
      · exact .inr ⟨h1, a0, w0, h2⟩
    · rw [if_neg hw] at h ⊢
      exact h
  exact wpOp_mono done hm
/-- The region, its class: the world at hand, and whatever has been laid behind it; t: its last operation. -/
theorem region_laterL {id : Nat} {l : List Oper} {a : Act} {w : World} (t : Nat) (hm : P.follows .mixedOrders = true)
    (h : wpAnyL P .any l.toArray (NoPanic Q) t (fun x => ∃ p : Regrown, x = grow (redrawn w p.d) p.os) l.length (Array.replicate l.length false) a w.drew) : (Code.region id l.toArray true).wp P Q a w :=
  wp_region_noPanic (wp_region_any hm (by simpa using wpAny_of_L _ _ _ _ h))
theorem phase_laterL {l : List Oper} (hsel : Region.noSelect l.toArray = true) (fuel : Nat) {w0 w : World} (hb : Below w0.heap.size w0 w) (σ : List Nat) {n : Nat} {listed : Array Bool} {a : Act} (hn : n = σ.length + fuel) (hok : okPhaseL md l t listed σ = true)
    (h : wpQuiet P l.toArray (fun x => ∃ p : Regrown, x = grow (redrawn w0 p.d) p.os) (fun a' => wpAnyL P md l.toArray (NoPanic Q) t (fun x => ∃ p : Regrown, x = grow (redrawn w0 p.d) p.os) fuel (after listed σ) a' w) (picks l σ) a) :
    wpAnyL P md l.toArray (NoPanic Q) t (fun x => ∃ p : Regrown, x = grow (redrawn w0 p.d) p.os) n listed a w := phaseL_of hsel (fun _ _ _ _ _ h => h) fuel w (later_of hb) σ listed a hn hok h
theorem behind_laterL {l : List Oper} {fuel : Nat} {listed : Array Bool} {a : Act} {w0 w : World} (hb : Below w0.heap.size w0 w)
    (h : wpAnyL P md l.toArray Q t (fun x => ∃ p : Regrown, x = grow (redrawn w p.d) p.os) fuel listed a w) : Qn (fun a' w' => BehindL P md l Q t (fun x => ∃ p : Regrown, x = grow (redrawn w0 p.d) p.os) fuel listed a' w') Q .normal a w :=
  ⟨_, later_of (Below.refl _ _), fun _ hx => later_of (hb.trans ((of_later hx).mono hb.size)), h⟩
theorem behind_sinceL {l : List Oper} {fuel : Nat} {listed : Array Bool} {a : Act} {w0 w : World} (hb : Below w0.heap.size w0 w)
    (h : wpAnyL P md l.toArray Q t (fun x => ∃ p : Regrown, x = grow (redrawn w0 p.d) p.os) fuel listed a w) : Qn (fun a' w' => BehindL P md l Q t (fun x => ∃ p : Regrown, x = grow (redrawn w0 p.d) p.os) fuel listed a' w') Q .normal a w :=
  ⟨_, later_of hb, fun _ hx => hx, h⟩
theorem behind_last {K : Exit → Act → World → Prop} {a : Act} {w : World} (h : Q .normal a w) : Qn (fun a' w' => Q .normal a' w') K .normal a w := h
end
end Go.Proofs.Ytnppihlalhaldaa
