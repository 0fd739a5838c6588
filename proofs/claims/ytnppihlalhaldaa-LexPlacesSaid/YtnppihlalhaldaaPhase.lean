/-
  A region that draws its order, whose calls wait for one another: the operations that only read are taken ahead of each call; behind a call the class of worlds may be narrowed.
  Conditions: none.
-/
import Derived.Test.YtnppihlalhaldaaMem
import Derived.OrdersHeld
import Derived.Deep.QuietTactic
import Derived.BigQuiet
import Derived.Deep.RegionHeld3
import Derived.Lib.QuietBelow
namespace Go.Proofs.Ytnppihlalhaldaa
set_option linter.unusedVariables false
set_option linter.unusedSimpArgs false
open Go.RowKit Go.Sort
section
variable {P : Program} {ops : Array Oper} {Q : Exit → Act → World → Prop} {md : Region.Mode} {S S' : World → Prop}

theorem held_mono (hS : ∀ w, S' w → S w) : ∀ (fuel : Nat) (listed : Array Bool) (a : Act) (w : World), wpAnyH P md ops Q S' fuel listed a w → wpAnyH P md ops Q S fuel listed a w
  | 0, _, _, _, h => h
  | fuel + 1, _, _, _, h => ⟨h.1, fun i hi => wpOp_mono (fun a' w' h' => ⟨hS _ h'.1, held_mono hS fuel _ a' w' h'.2⟩) (h.2 i hi)⟩

/-- Operations that yield a value, or halt: no call of a Go function. -/
def calm (o : Oper) : Bool :=
  match o.op with
  | .move _ | .assign _ | .pick _ _ _ | .load _ _ | .binOp _ _ _ _ _ | .unOp _ _ _ | .convert _ _ _ | .field _ _ _ | .fieldAddr _ _ _ | .index _ _ _ | .indexAddr _ _ _ | .slice _ _ _ _ _ | .extract _ _ | .build _ _ | .nilCheck _ => true
  | .call { callee := .builtin .len, .. } => true
  | _ => false

theorem value_only {s : Sem Value} {w : World} {n : Next} {w' : World} (h : (do let x ← s; pure (Next.value x) : Sem Next).run P w = .ok n w') : ∃ v, n = .value v := by
  rw [Sem.run_bind] at h
  cases hs : s.run P w with
  | ok x w1 =>
    rw [hs] at h
    simp only [Result.andThen, Sem.run_pure] at h
    injection h with h1 h2
    exact ⟨x, h1.symm⟩
  | halt x w1 =>
    rw [hs] at h
    simp [Result.andThen] at h

theorem bind_value {α : Type} {s : Sem α} {k : α → Sem Next} (hk : ∀ x w n w', (k x).run P w = .ok n w' → ∃ v, n = .value v) {w : World} {n : Next} {w' : World} (h : (s >>= k).run P w = .ok n w') : ∃ v, n = .value v := by
  rw [Sem.run_bind] at h
  cases hs : s.run P w with
  | ok x w1 => rw [hs] at h; exact hk x w1 n w' h
  | halt x w1 => rw [hs] at h; simp [Result.andThen] at h
theorem pure_value {x : Value} {w : World} {n : Next} {w' : World} (h : (pure (Next.value x) : Sem Next).run P w = .ok n w') : ∃ v, n = .value v := by
  rw [Sem.run_pure] at h
  injection h with h _
  exact ⟨x, h.symm⟩
theorem deref_value {w : World} {n : Next} {w' : World} (h : (runtimePanic .nilDeref : Sem Next).run P w = .ok n w') : ∃ v, n = .value v := by
  unfold runtimePanic at h
  exact bind_value (fun p w n w' h => by simp at h) h
theorem calm_value {o : Oper} (hc : calm o = true) (ρ : Operand → Value) (w : World) (n : Next) (w' : World) (h : (execOp ρ o).run P w = .ok n w') : ∃ v, n = .value v := by
  unfold calm at hc
  split at hc
  case h_16 heq =>
    unfold execOp at h
    simp only [heq, resolve, Sem.run_bind, Sem.run_pure, Result.andThen, invoke, builtin] at h
    exact value_only (s := Builtin.len_ _ _ _) (by rw [Sem.run_bind]; exact h)
  case h_17 => simp at hc
  case h_15 heq =>
    unfold execOp at h
    simp only [heq] at h
    split at h
    · exact deref_value h
    · exact deref_value h
    · exact deref_value h
    · split at h
      · exact deref_value h
      · refine bind_value (fun p w n w' h => ?_) h
        refine bind_value (fun p w n w' h => ?_) h
        split at h
        · exact bind_value (fun p w n w' h => pure_value h) h
        · exact pure_value h
      · exact pure_value h
    · exact pure_value h
  case h_1 heq | h_2 heq =>
    unfold execOp at h
    simp only [heq, Sem.run_pure] at h
    injection h with h1 h2
    exact ⟨_, h1.symm⟩
  case h_3 heq =>
    unfold execOp at h
    simp only [heq] at h
    rename_i c a b
    exact value_only (s := do pure (if ← asBool (ρ c) then ρ a else ρ b)) (by
      rw [Sem.run_bind] at h ⊢
      rw [Sem.run_bind]
      cases hs : (asBool (ρ c)).run P w with
      | ok x w1 => rw [hs] at h; simpa [Result.andThen, Sem.run_pure] using h
      | halt x w1 => rw [hs] at h; simp [Result.andThen] at h)
  all_goals
    rename_i heq
    unfold execOp at h
    simp only [heq] at h
    exact value_only h

theorem yields_of_quiet {o : Oper} {a : Act} {K : Act → Prop} (hc : calm o = true) {w0 : World} (h0 : S w0) (h : o.quiet P a S K) :
    ∃ v, (∀ w, S w → (execOp a.eval o).run P w = .ok (.value v) w) ∧ K (a.put o.dst v) := by
  obtain ⟨v, h1, h2⟩ := h
  refine ⟨v, fun w hw => ?_, h2⟩
  have h3 := h1 w hw
  unfold Oper.quietAt at h3
  have hv := calm_value (P := P) hc a.eval w
  generalize (execOp a.eval o).run P w = r at *
  cases r with
  | halt x w' => simp [Oper.quietUpon] at h3
  | ok n w' =>
    obtain ⟨u, rfl⟩ := hv n w' rfl
    simp only [Oper.quietUpon] at h3
    rw [h3.1, h3.2]

def nth : List Oper → Nat → Oper
  | [], _ => default
  | o :: _, 0 => o
  | _ :: l, n + 1 => nth l n
def picks (l : List Oper) : List Nat → List Oper
  | [] => []
  | i :: σ => nth l i :: picks l σ
theorem nth_some : ∀ (l : List Oper) (i : Nat), i < l.length → l[i]? = some (nth l i)
  | [], _, h => absurd h (by simp)
  | _ :: _, 0, _ => rfl
  | _ :: l, i + 1, h => by simpa [nth] using nth_some l i (by simpa using h)
def after : Array Bool → List Nat → Array Bool
  | listed, [] => listed
  | listed, i :: σ => after (listed.setIfInBounds i true) σ
def okPhase (md : Region.Mode) (l : List Oper) : Array Bool → List Nat → Bool
  | _, [] => true
  | listed, i :: σ => decide (i < l.length) && (Region.ready md l.toArray listed).contains i && Region.free md l.toArray listed i && calm (nth l i) && okPhase md l (listed.setIfInBounds i true) σ

/-- Operations that only read, taken ahead of all others. -/
theorem phase_of {l : List Oper} (hsel : Region.noSelect l.toArray = true) (hQ : ∀ c a d v w, Q (.panic c) (Act.put a d v) w → Q (.panic c) a w) (fuel : Nat) (w : World) (hS : S w) :
    ∀ (σ : List Nat) {n : Nat} (listed : Array Bool) (a : Act), n = σ.length + fuel → okPhase md l listed σ = true →
      wpQuiet P l.toArray S (fun a' => wpAnyH P md l.toArray Q S fuel (after listed σ) a' w) (picks l σ) a → wpAnyH P md l.toArray Q S n listed a w
  | [], n, listed, a, hn, _, h => by
    obtain rfl : n = fuel := by simpa using hn
    exact h
  | i :: σ, n, listed, a, hn, hok, h => by
    obtain rfl : n = (σ.length + fuel) + 1 := by simp at hn; omega
    simp only [okPhase, Bool.and_eq_true, decide_eq_true_eq] at hok
    obtain ⟨⟨⟨⟨hi, hr⟩, hf⟩, hc⟩, hrest⟩ := hok
    have ho : l.toArray[i]? = some (nth l i) := by rw [List.getElem?_toArray]; exact nth_some l i hi
    simp only [picks, wpQuiet] at h
    have step : ∀ v, YieldsIf P l.toArray S (nth l i) v a → wpQuiet P l.toArray S (fun a' => wpAnyH P md l.toArray Q S fuel (after (listed.setIfInBounds i true) σ) a' w) (picks l σ) (a.put (nth l i).dst v) →
        wpAnyH P md l.toArray Q S ((σ.length + fuel) + 1) listed a w := fun v hy hk =>
      wpAnyH_first ho (Region.noSelect_spec hsel) (fun c a w => hQ c a _ _ w) (σ.length + fuel) listed a w (Region.free_spec ho hf) (by simpa using hr) hy hS
        (phase_of hsel hQ fuel w hS σ _ _ rfl hrest hk)
    by_cases hw : Region.wanted (nth l i) (yielded l.toArray a.tmps) = true
    · rw [if_pos hw] at h
      obtain ⟨v, hv, hk⟩ := yields_of_quiet hc hS h
      exact step v (.inl ⟨hw, hv⟩) hk
    · rw [if_neg hw] at h
      exact step undef (.inr ⟨by simpa using hw, rfl⟩) h

theorem phase {l : List Oper} (hsel : Region.noSelect l.toArray = true) (fuel : Nat) {w : World} (hS : S w) (σ : List Nat) {n : Nat} {listed : Array Bool} {a : Act} (hn : n = σ.length + fuel) (hok : okPhase md l listed σ = true)
    (h : wpQuiet P l.toArray S (fun a' => wpAnyH P md l.toArray (NoPanic Q) S fuel (after listed σ) a' w) (picks l σ) a) : wpAnyH P md l.toArray (NoPanic Q) S n listed a w :=
  phase_of hsel (fun _ _ _ _ _ h => h) fuel w hS σ listed a hn hok h
/-- The post behind one operation. -/
def Qn (K : Act → World → Prop) (Q : Exit → Act → World → Prop) : Exit → Act → World → Prop
  | .normal, a, w => K a w
  | e, a, w => Q e a w
def Behind (P : Program) (md : Region.Mode) (l : List Oper) (Q : Exit → Act → World → Prop) (S : World → Prop) (fuel : Nat) (listed : Array Bool) (a : Act) (w : World) : Prop :=
  ∃ S' : World → Prop, S' w ∧ (∀ x, S' x → S x) ∧ wpAnyH P md l.toArray Q S' fuel listed a w

/-- The one operation that can come up: a call, or what writes. -/
theorem phase_op {l : List Oper} (i : Nat) {n : Nat} (fuel : Nat) {listed : Array Bool} {a : Act} {w : World} (hn : n = fuel + 1) (hr : Region.ready md l.toArray listed = [i]) (hi : i < l.length)
    (h : wpList P l.toArray (Qn (fun a' w' => Behind P md l Q S fuel (listed.setIfInBounds i true) a' w') Q) [nth l i] a w) : wpAnyH P md l.toArray Q S n listed a w := by
  subst hn
  have ho : l.toArray[i]? = some (nth l i) := by rw [List.getElem?_toArray]; exact nth_some l i hi
  refine ⟨(fun h0 => by rw [hr] at h0; cases h0), fun j hj => ?_⟩
  rw [hr] at hj
  obtain rfl : j = i := by simpa using hj
  have fin : ∀ a' w', Behind P md l Q S fuel (listed.setIfInBounds j true) a' w' → S w' ∧ wpAnyH P md l.toArray Q S fuel (listed.setIfInBounds j true) a' w' := fun a' w' ⟨S', h1, h2, h3⟩ => ⟨h2 _ h1, held_mono h2 _ _ _ _ h3⟩
  refine wpOp_mono fin ?_
  unfold wpOp
  simp only [ho]
  simp only [wpList] at h
  by_cases hw : Region.wanted (nth l j) (yielded l.toArray a.tmps) = true
  · rw [if_pos hw] at h ⊢
    rcases h with h | ⟨h1, a0, w0, h2⟩
    · exact .inl h
    · exact .inr ⟨h1, a0, w0, h2⟩
  · rw [if_neg hw] at h ⊢
    exact h
theorem phase_end {l : List Oper} {listed : Array Bool} {a : Act} {w : World} (hr : Region.ready md l.toArray listed = []) (h : Q .normal a w) : wpAnyH P md l.toArray (NoPanic Q) S 0 listed a w := ⟨hr, NoPanic.normal h⟩

theorem no_panic (Q : Exit → Act → World → Prop) : ∀ c a d v w, NoPanic Q (.panic c) (Act.put a d v) w → NoPanic Q (.panic c) a w := fun _ _ _ _ _ h => h
/-- The region. -/
theorem region_phases {id : Nat} {l : List Oper} {a : Act} {w : World} (S : World → Prop) (hm : P.follows .mixedOrders = true)
    (h : wpAnyH P .any l.toArray (NoPanic Q) S l.length (Array.replicate l.length false) a w.drew) : (Code.region id l.toArray true).wp P Q a w :=
  wp_region_noPanic (wp_region_any hm (by simpa using wpAny_of_held _ _ _ _ h))

/-! ### the class: a world, and whatever has been laid behind it -/
theorem later_of {w x : World} (h : Below w.heap.size w x) : ∃ p : Regrown, x = grow (redrawn w p.d) p.os := regrown_of_below h
theorem of_later {w x : World} (h : ∃ p : Regrown, x = grow (redrawn w p.d) p.os) : Below w.heap.size w x := by
  obtain ⟨p, rfl⟩ := h
  exact below_regrown w p.d p.os
theorem region_later {id : Nat} {l : List Oper} {a : Act} {w : World} (hm : P.follows .mixedOrders = true)
    (h : wpAnyH P .any l.toArray (NoPanic Q) (fun x => ∃ p : Regrown, x = grow (redrawn w p.d) p.os) l.length (Array.replicate l.length false) a w.drew) : (Code.region id l.toArray true).wp P Q a w := region_phases _ hm h
theorem phase_later {l : List Oper} (hsel : Region.noSelect l.toArray = true) (fuel : Nat) {w0 w : World} (hb : Below w0.heap.size w0 w) (σ : List Nat) {n : Nat} {listed : Array Bool} {a : Act} (hn : n = σ.length + fuel) (hok : okPhase md l listed σ = true)
    (h : wpQuiet P l.toArray (fun x => ∃ p : Regrown, x = grow (redrawn w0 p.d) p.os) (fun a' => wpAnyH P md l.toArray (NoPanic Q) (fun x => ∃ p : Regrown, x = grow (redrawn w0 p.d) p.os) fuel (after listed σ) a' w) (picks l σ) a) :
    wpAnyH P md l.toArray (NoPanic Q) (fun x => ∃ p : Regrown, x = grow (redrawn w0 p.d) p.os) n listed a w := phase hsel fuel (later_of hb) σ hn hok h
theorem behind_later {l : List Oper} {fuel : Nat} {listed : Array Bool} {a : Act} {w0 w : World} (hb : Below w0.heap.size w0 w)
    (h : wpAnyH P md l.toArray Q (fun x => ∃ p : Regrown, x = grow (redrawn w p.d) p.os) fuel listed a w) : Qn (fun a' w' => Behind P md l Q (fun x => ∃ p : Regrown, x = grow (redrawn w0 p.d) p.os) fuel listed a' w') Q .normal a w :=
  ⟨_, later_of (Below.refl _ _), fun _ hx => later_of (hb.trans ((of_later hx).mono hb.size)), h⟩
/-- The class stays as it is: behind what writes to a row of the call's own. -/
theorem region_since {id : Nat} {l : List Oper} {a : Act} {w w0 : World} (hm : P.follows .mixedOrders = true)
    (h : wpAnyH P .any l.toArray (NoPanic Q) (fun x => ∃ p : Regrown, x = grow (redrawn w0 p.d) p.os) l.length (Array.replicate l.length false) a w.drew) : (Code.region id l.toArray true).wp P Q a w := region_phases _ hm h
theorem behind_since {l : List Oper} {fuel : Nat} {listed : Array Bool} {a : Act} {w0 w : World} (hb : Below w0.heap.size w0 w)
    (h : wpAnyH P md l.toArray Q (fun x => ∃ p : Regrown, x = grow (redrawn w0 p.d) p.os) fuel listed a w) : Qn (fun a' w' => Behind P md l Q (fun x => ∃ p : Regrown, x = grow (redrawn w0 p.d) p.os) fuel listed a' w') Q .normal a w :=
  ⟨_, later_of hb, fun _ hx => hx, h⟩
end
theorem quiet_same {P : Program} {f : FuncId} {args : Array Value} {w : World} {n : Nat} {v : Value}
    (h : Calls P f args (w.drewN n) fun e w' => e = .returned v ∧ w.drewN n = w') : Calls P f args (w.drewN n) fun e w'' => e = .returned v ∧ ∃ m, w'' = w.drewN m :=
  h.mono fun _ _ ⟨he, hm⟩ => ⟨he, n, hm.symm⟩
theorem below_drew (w : World) : Below w.heap.size w w.drew := (Below.refl _ _).drew
end Go.Proofs.Ytnppihlalhaldaa
