/-
  Texts joined: Phase, Blk, Words, Cob, PdoPlace, Text, Frame.
  Conditions: none.
-/
import Derived.Test.YtbmocffnnlfnjaaGreatJ02
import Derived.Test.YtbmocffnnlfnjaaGreatJ03
import Derived.OrdersHeld
import Derived.Deep.QuietTactic
import Derived.BigQuiet
import Derived.Deep.RegionHeld3
import Derived.Lib.QuietBelow
import Derived.Laws.OwnMore
import Derived.Laws.Rows
import Derived.Test.YtbmocffnnlfnjaaGreatProg
import Derived.Laws.Concat
import Derived.Laws.RangeAny
import Derived.ProofKit
import Derived.OpenShut
import Derived.ShutString
import Derived.ChangeOld
/-
  A region that draws its order, whose calls wait for one another: the operations that only read are taken ahead of each call; behind a call the class of worlds may be narrowed.
  Conditions: none.
-/
namespace Go.Proofs.YtbmocffnnlfnjaaGreat
set_option linter.unusedVariables false
set_option linter.unusedSimpArgs false
open Go.RowKit Go.Sort
section
variable {P : Program} {ops : Array Oper} {Q : Exit → Act → World → Prop} {md : Region.Mode} {S S' : World → Prop}

theorem held_mono (hS : ∀ w, S' w → S w) : ∀ (fuel : Nat) (listed : Array Bool) (a : Act) (w : World), wpAnyH P md ops Q S' fuel listed a w → wpAnyH P md ops Q S fuel listed a w
  | 0, _, _, _, h => h
  | fuel + 1, _, _, _, h => ⟨h.1, fun i hi => wpOp_mono (fun a' w' h' => ⟨hS _ h'.1, held_mono hS fuel _ a' w' h'.2⟩) (h.2 i hi)⟩

/-- Operations that yield a value, or halt: no call of a Go function. -/
def calm (o : Oper) : Bool :=
  match o.op with
  | .move _ | .assign _ | .pick _ _ _ | .load _ _ | .binOp _ _ _ _ _ | .unOp _ _ _ | .convert _ _ _ | .field _ _ _ | .fieldAddr _ _ _ | .index _ _ _ | .indexAddr _ _ _ | .slice _ _ _ _ _ | .extract _ _ | .build _ _ | .nilCheck _ => true
  | .call { callee := .builtin .len, .. } => true
  | _ => false

theorem value_only {s : Sem Value} {w : World} {n : Next} {w' : World} (h : (do let x ← s; pure (Next.value x) : Sem Next).run P w = .ok n w') : ∃ v, n = .value v := by
  rw [Sem.run_bind] at h
  cases hs : s.run P w with
  | ok x w1 =>
    rw [hs] at h
    simp only [Result.andThen, Sem.run_pure] at h
    injection h with h1 h2
    exact ⟨x, h1.symm⟩
  | halt x w1 =>
    rw [hs] at h
    simp [Result.andThen] at h

theorem bind_value {α : Type} {s : Sem α} {k : α → Sem Next} (hk : ∀ x w n w', (k x).run P w = .ok n w' → ∃ v, n = .value v) {w : World} {n : Next} {w' : World} (h : (s >>= k).run P w = .ok n w') : ∃ v, n = .value v := by
  rw [Sem.run_bind] at h
  cases hs : s.run P w with
  | ok x w1 => rw [hs] at h; exact hk x w1 n w' h
  | halt x w1 => rw [hs] at h; simp [Result.andThen] at h
theorem pure_value {x : Value} {w : World} {n : Next} {w' : World} (h : (pure (Next.value x) : Sem Next).run P w = .ok n w') : ∃ v, n = .value v := by
  rw [Sem.run_pure] at h
  injection h with h _
  exact ⟨x, h.symm⟩
theorem deref_value {w : World} {n : Next} {w' : World} (h : (runtimePanic .nilDeref : Sem Next).run P w = .ok n w') : ∃ v, n = .value v := by
  unfold runtimePanic at h
  exact bind_value (fun p w n w' h => by simp at h) h
theorem calm_value {o : Oper} (hc : calm o = true) (ρ : Operand → Value) (w : World) (n : Next) (w' : World) (h : (execOp ρ o).run P w = .ok n w') : ∃ v, n = .value v := by
  unfold calm at hc
  split at hc
  case h_16 heq =>
    unfold execOp at h
    simp only [heq, resolve, Sem.run_bind, Sem.run_pure, Result.andThen, invoke, builtin] at h
    exact value_only (s := Builtin.len_ _ _ _) (by rw [Sem.run_bind]; exact h)
  case h_17 => simp at hc
  case h_15 heq =>
    unfold execOp at h
    simp only [heq] at h
    split at h
    · exact deref_value h
    · exact deref_value h
    · exact deref_value h
    · split at h
      · exact deref_value h
      · refine bind_value (fun p w n w' h => ?_) h
        refine bind_value (fun p w n w' h => ?_) h
        split at h
        · exact bind_value (fun p w n w' h => pure_value h) h
        · exact pure_value h
      · exact pure_value h
    · exact pure_value h
  case h_1 heq | h_2 heq =>
    unfold execOp at h
    simp only [heq, Sem.run_pure] at h
    injection h with h1 h2
    exact ⟨_, h1.symm⟩
  case h_3 heq =>
    unfold execOp at h
    simp only [heq] at h
    rename_i c a b
    exact value_only (s := do pure (if ← asBool (ρ c) then ρ a else ρ b)) (by
      rw [Sem.run_bind] at h ⊢
      rw [Sem.run_bind]
      cases hs : (asBool (ρ c)).run P w with
      | ok x w1 => rw [hs] at h; simpa [Result.andThen, Sem.run_pure] using h
      | halt x w1 => rw [hs] at h; simp [Result.andThen] at h)
  all_goals
    rename_i heq
    unfold execOp at h
    simp only [heq] at h
    exact value_only h

theorem yields_of_quiet {o : Oper} {a : Act} {K : Act → Prop} (hc : calm o = true) {w0 : World} (h0 : S w0) (h : o.quiet P a S K) :
    ∃ v, (∀ w, S w → (execOp a.eval o).run P w = .ok (.value v) w) ∧ K (a.put o.dst v) := by
  obtain ⟨v, h1, h2⟩ := h
  refine ⟨v, fun w hw => ?_, h2⟩
  have h3 := h1 w hw
  unfold Oper.quietAt at h3
  have hv := calm_value (P := P) hc a.eval w
  generalize (execOp a.eval o).run P w = r at *
  cases r with
  | halt x w' => simp [Oper.quietUpon] at h3
  | ok n w' =>
    obtain ⟨u, rfl⟩ := hv n w' rfl
    simp only [Oper.quietUpon] at h3
    rw [h3.1, h3.2]

def nth : List Oper → Nat → Oper
  | [], _ => default
  | o :: _, 0 => o
  | _ :: l, n + 1 => nth l n
def picks (l : List Oper) : List Nat → List Oper
  | [] => []
  | i :: σ => nth l i :: picks l σ
theorem nth_some : ∀ (l : List Oper) (i : Nat), i < l.length → l[i]? = some (nth l i)
  | [], _, h => absurd h (by simp)
  | _ :: _, 0, _ => rfl
  | _ :: l, i + 1, h => by simpa [nth] using nth_some l i (by simpa using h)
def after : Array Bool → List Nat → Array Bool
  | listed, [] => listed
  | listed, i :: σ => after (listed.setIfInBounds i true) σ
def okPhase (md : Region.Mode) (l : List Oper) : Array Bool → List Nat → Bool
  | _, [] => true
  | listed, i :: σ => decide (i < l.length) && (Region.ready md l.toArray listed).contains i && Region.free md l.toArray listed i && calm (nth l i) && okPhase md l (listed.setIfInBounds i true) σ

/-- Operations that only read, taken ahead of all others. -/
theorem phase_of {l : List Oper} (hsel : Region.noSelect l.toArray = true) (hQ : ∀ c a d v w, Q (.panic c) (Act.put a d v) w → Q (.panic c) a w) (fuel : Nat) (w : World) (hS : S w) :
    ∀ (σ : List Nat) {n : Nat} (listed : Array Bool) (a : Act), n = σ.length + fuel → okPhase md l listed σ = true →
      wpQuiet P l.toArray S (fun a' => wpAnyH P md l.toArray Q S fuel (after listed σ) a' w) (picks l σ) a → wpAnyH P md l.toArray Q S n listed a w
  | [], n, listed, a, hn, _, h => by
    obtain rfl : n = fuel := by simpa using hn
    exact h
  | i :: σ, n, listed, a, hn, hok, h => by
    obtain rfl : n = (σ.length + fuel) + 1 := by simp at hn; omega
    simp only [okPhase, Bool.and_eq_true, decide_eq_true_eq] at hok
    obtain ⟨⟨⟨⟨hi, hr⟩, hf⟩, hc⟩, hrest⟩ := hok
    have ho : l.toArray[i]? = some (nth l i) := by rw [List.getElem?_toArray]; exact nth_some l i hi
    simp only [picks, wpQuiet] at h
    have step : ∀ v, YieldsIf P l.toArray S (nth l i) v a → wpQuiet P l.toArray S (fun a' => wpAnyH P md l.toArray Q S fuel (after (listed.setIfInBounds i true) σ) a' w) (picks l σ) (a.put (nth l i).dst v) →
        wpAnyH P md l.toArray Q S ((σ.length + fuel) + 1) listed a w := fun v hy hk =>
      wpAnyH_first ho (Region.noSelect_spec hsel) (fun c a w => hQ c a _ _ w) (σ.length + fuel) listed a w (Region.free_spec ho hf) (by simpa using hr) hy hS
        (phase_of hsel hQ fuel w hS σ _ _ rfl hrest hk)
    by_cases hw : Region.wanted (nth l i) (yielded l.toArray a.tmps) = true
    · rw [if_pos hw] at h
      obtain ⟨v, hv, hk⟩ := yields_of_quiet hc hS h
      exact step v (.inl ⟨hw, hv⟩) hk
    · rw [if_neg hw] at h
      exact step undef (.inr ⟨by simpa using hw, rfl⟩) h

theorem phase {l : List Oper} (hsel : Region.noSelect l.toArray = true) (fuel : Nat) {w : World} (hS : S w) (σ : List Nat) {n : Nat} {listed : Array Bool} {a : Act} (hn : n = σ.length + fuel) (hok : okPhase md l listed σ = true)
    (h : wpQuiet P l.toArray S (fun a' => wpAnyH P md l.toArray (NoPanic Q) S fuel (after listed σ) a' w) (picks l σ) a) : wpAnyH P md l.toArray (NoPanic Q) S n listed a w :=
  phase_of hsel (fun _ _ _ _ _ h => h) fuel w hS σ listed a hn hok h
/-- The post behind one operation. -/
def Qn (K : Act → World → Prop) (Q : Exit → Act → World → Prop) : Exit → Act → World → Prop
  | .normal, a, w => K a w
  | e, a, w => Q e a w
def Behind (P : Program) (md : Region.Mode) (l : List Oper) (Q : Exit → Act → World → Prop) (S : World → Prop) (fuel : Nat) (listed : Array Bool) (a : Act) (w : World) : Prop :=
  ∃ S' : World → Prop, S' w ∧ (∀ x, S' x → S x) ∧ wpAnyH P md l.toArray Q S' fuel listed a w

/-- The one operation that can come up: a call, or what writes. -/
theorem phase_op {l : List Oper} (i : Nat) {n : Nat} (fuel : Nat) {listed : Array Bool} {a : Act} {w : World} (hn : n = fuel + 1) (hr : Region.ready md l.toArray listed = [i]) (hi : i < l.length)
    (h : wpList P l.toArray (Qn (fun a' w' => Behind P md l Q S fuel (listed.setIfInBounds i true) a' w') Q) [nth l i] a w) : wpAnyH P md l.toArray Q S n listed a w := by
  subst hn
  have ho : l.toArray[i]? = some (nth l i) := by rw [List.getElem?_toArray]; exact nth_some l i hi
  refine ⟨(fun h0 => by rw [hr] at h0; cases h0), fun j hj => ?_⟩
  rw [hr] at hj
  obtain rfl : j = i := by simpa using hj
  have fin : ∀ a' w', Behind P md l Q S fuel (listed.setIfInBounds j true) a' w' → S w' ∧ wpAnyH P md l.toArray Q S fuel (listed.setIfInBounds j true) a' w' := fun a' w' ⟨S', h1, h2, h3⟩ => ⟨h2 _ h1, held_mono h2 _ _ _ _ h3⟩
  refine wpOp_mono fin ?_
  unfold wpOp
  simp only [ho]
  simp only [wpList] at h
  by_cases hw : Region.wanted (nth l j) (yielded l.toArray a.tmps) = true
  · rw [if_pos hw] at h ⊢
    rcases h with h | ⟨h1, a0, w0, h2⟩
    · exact .inl h
    · exact .inr ⟨h1, a0, w0, h2⟩
  · rw [if_neg hw] at h ⊢
    exact h
theorem phase_end {l : List Oper} {listed : Array Bool} {a : Act} {w : World} (hr : Region.ready md l.toArray listed = []) (h : Q .normal a w) : wpAnyH P md l.toArray (NoPanic Q) S 0 listed a w := ⟨hr, NoPanic.normal h⟩

theorem no_panic (Q : Exit → Act → World → Prop) : ∀ c a d v w, NoPanic Q (.panic c) (Act.put a d v) w → NoPanic Q (.panic c) a w := fun _ _ _ _ _ h => h
/-- The region. -/
theorem region_phases {id : Nat} {l : List Oper} {a : Act} {w : World} (S : World → Prop) (hm : P.follows .mixedOrders = true)
    (h : wpAnyH P .any l.toArray (NoPanic Q) S l.length (Array.replicate l.length false) a w.drew) : (Code.region id l.toArray true).wp P Q a w :=
  wp_region_noPanic (wp_region_any hm (by simpa using wpAny_of_held _ _ _ _ h))

/-! ### the class: a world, and whatever has been laid behind it -/
theorem later_of {w x : World} (h : Below w.heap.size w x) : ∃ p : Regrown, x = grow (redrawn w p.d) p.os := regrown_of_below h
theorem of_later {w x : World} (h : ∃ p : Regrown, x = grow (redrawn w p.d) p.os) : Below w.heap.size w x := by
  obtain ⟨p, rfl⟩ := h
  exact below_regrown w p.d p.os
theorem region_later {id : Nat} {l : List Oper} {a : Act} {w : World} (hm : P.follows .mixedOrders = true)
    (h : wpAnyH P .any l.toArray (NoPanic Q) (fun x => ∃ p : Regrown, x = grow (redrawn w p.d) p.os) l.length (Array.replicate l.length false) a w.drew) : (Code.region id l.toArray true).wp P Q a w := region_phases _ hm h
theorem phase_later {l : List Oper} (hsel : Region.noSelect l.toArray = true) (fuel : Nat) {w0 w : World} (hb : Below w0.heap.size w0 w) (σ : List Nat) {n : Nat} {listed : Array Bool} {a : Act} (hn : n = σ.length + fuel) (hok : okPhase md l listed σ = true)
    (h : wpQuiet P l.toArray (fun x => ∃ p : Regrown, x = grow (redrawn w0 p.d) p.os) (fun a' => wpAnyH P md l.toArray (NoPanic Q) (fun x => ∃ p : Regrown, x = grow (redrawn w0 p.d) p.os) fuel (after listed σ) a' w) (picks l σ) a) :
    wpAnyH P md l.toArray (NoPanic Q) (fun x => ∃ p : Regrown, x = grow (redrawn w0 p.d) p.os) n listed a w := phase hsel fuel (later_of hb) σ hn hok h
theorem behind_later {l : List Oper} {fuel : Nat} {listed : Array Bool} {a : Act} {w0 w : World} (hb : Below w0.heap.size w0 w)
    (h : wpAnyH P md l.toArray Q (fun x => ∃ p : Regrown, x = grow (redrawn w p.d) p.os) fuel listed a w) : Qn (fun a' w' => Behind P md l Q (fun x => ∃ p : Regrown, x = grow (redrawn w0 p.d) p.os) fuel listed a' w') Q .normal a w :=
  ⟨_, later_of (Below.refl _ _), fun _ hx => later_of (hb.trans ((of_later hx).mono hb.size)), h⟩
/-- The class stays as it is: behind what writes to a row of the call's own. -/
theorem region_since {id : Nat} {l : List Oper} {a : Act} {w w0 : World} (hm : P.follows .mixedOrders = true)
    (h : wpAnyH P .any l.toArray (NoPanic Q) (fun x => ∃ p : Regrown, x = grow (redrawn w0 p.d) p.os) l.length (Array.replicate l.length false) a w.drew) : (Code.region id l.toArray true).wp P Q a w := region_phases _ hm h
theorem behind_since {l : List Oper} {fuel : Nat} {listed : Array Bool} {a : Act} {w0 w : World} (hb : Below w0.heap.size w0 w)
    (h : wpAnyH P md l.toArray Q (fun x => ∃ p : Regrown, x = grow (redrawn w0 p.d) p.os) fuel listed a w) : Qn (fun a' w' => Behind P md l Q (fun x => ∃ p : Regrown, x = grow (redrawn w0 p.d) p.os) fuel listed a' w') Q .normal a w :=
  ⟨_, later_of hb, fun _ hx => hx, h⟩
end
theorem quiet_same {P : Program} {f : FuncId} {args : Array Value} {w : World} {n : Nat} {v : Value}
    (h : Calls P f args (w.drewN n) fun e w' => e = .returned v ∧ w.drewN n = w') : Calls P f args (w.drewN n) fun e w'' => e = .returned v ∧ ∃ m, w'' = w.drewN m :=
  h.mono fun _ _ ⟨he, hm⟩ => ⟨he, n, hm.symm⟩
theorem below_drew (w : World) : Below w.heap.size w w.drew := (Below.refl _ _).drew
end Go.Proofs.YtbmocffnnlfnjaaGreat
/-
  A block that is known whole.
  Conditions: none.
-/
namespace Go.Proofs.YtbmocffnnlfnjaaGreat
set_option linter.unusedVariables false
set_option linter.unusedSimpArgs false
open Go.RowKit
def Blk (w : World) (g : Nat) (t : TypeId) (cs : Array Value) : Prop := w.heap[g]? = some (.cells cs t (0, 0))
section
variable {w w' : World} {g : Nat} {t : TypeId} {cs : Array Value}
theorem Blk.lt (h : Blk w g t cs) : g < w.heap.size := by
  rcases Nat.lt_or_ge g w.heap.size with hlt | hge
  · exact hlt
  · unfold Blk at h; rw [Array.getElem?_eq_none hge] at h; cases h
theorem Blk.cell (h : Blk w g t cs) (i : Nat) : w.cell? ⟨g, i, none⟩ = cs[i]? := cell_of_row w g i cs t (0, 0) h
theorem Blk.frozen (h : Blk w g t cs) (i : Nat) : w.frozen? ⟨g, i, none⟩ = false := by
  unfold Blk at h
  simp [World.frozen?, h]
theorem Blk.new (w : World) (t : TypeId) (cs : Array Value) : Blk (w.alloc (.cells cs t)) w.heap.size t cs := heap_alloc_new w _
theorem Blk.drew (h : Blk w g t cs) : Blk w.drew g t cs := h
theorem Blk.drewN (h : Blk w g t cs) (n : Nat) : Blk (w.drewN n) g t cs := h
theorem Blk.alloc (h : Blk w g t cs) (o : Obj) : Blk (w.alloc o) g t cs := (Below.heap_alloc w o g h.lt).trans h
theorem Blk.set_ (h : Blk w g t cs) (i : Nat) (u : Value) : Blk (w.setCell ⟨g, i, none⟩ u) g t (cs.setIfInBounds i u) := by
  unfold Blk at h ⊢
  simp [World.setCell, Array.getElem?_modify, h]
theorem Blk.far (h : Blk w g t cs) {p : Addr} (hp : g ≠ p.block) (u : Value) : Blk (w.setCell p u) g t cs := (Below.heap_setCell w p u g hp).trans h
theorem Blk.below {B : Nat} (h : Blk w g t cs) (hb : Below B w w') (hg : g < B) : Blk w' g t cs := (hb.block g hg).trans h
theorem Blk.later (h : Blk w g t cs) (hb : Below w.heap.size w w') : Blk w' g t cs := h.below hb h.lt
theorem Blk.grown {row : Option Nat} (h : Blk w g t cs) (hb : w.grownBy w' row) (hg : some g ≠ row) : Blk w' g t cs := (hb.block g h.lt hg).trans h
theorem Blk.ne_ {g' : Nat} {t' : TypeId} {cs' : Array Value} (h : Blk w g t cs) (h' : Blk w g' t' cs') (hne : t ≠ t') : g ≠ g' := by
  rintro rfl
  unfold Blk at h h'
  rw [h] at h'
  injection h' with h'
  injection h' with _ ht
  exact hne ht
theorem own_blk_ne {base : Nat} {e : TypeId} {size n : Nat} {v : Value} {xs : List Value} (h : w.ownsRow base e size v n xs) (hg : Blk w g t cs) (hne : e ≠ t) : v.ownBlock ≠ some g := by
  rcases h.2 with ⟨rfl, _⟩ | ⟨g', cap, cur, rfl, _, hh, _⟩
  · simp [Value.ownBlock]
  · intro he
    have : g' = g := by simpa [Value.ownBlock] using he
    subst this
    exact Blk.ne_ (t := e) hh hg hne rfl
theorem Blk.made {w1 : World} (hb : Below (w.alloc (.cells cs t)).heap.size (w.alloc (.cells cs t)) w1) : Blk w1 w.heap.size t cs := (Blk.new w t cs).later hb
theorem Blk.one {a : Value} (h : Blk w g t #[a]) : w.cell? ⟨g, 0, none⟩ = some a ∧ w.frozen? ⟨g, 0, none⟩ = false := ⟨h.cell 0, h.frozen 0⟩
theorem Blk.two {a b : Value} (h : Blk w g t #[a, b]) : w.cell? ⟨g, 0, none⟩ = some a ∧ w.cell? ⟨g, 1, none⟩ = some b ∧ (w.frozen? ⟨g, 0, none⟩ = false ∧ w.frozen? ⟨g, 1, none⟩ = false) := ⟨h.cell 0, h.cell 1, h.frozen 0, h.frozen 1⟩
theorem Blk.three {a b c : Value} (h : Blk w g t #[a, b, c]) : w.cell? ⟨g, 0, none⟩ = some a ∧ w.cell? ⟨g, 1, none⟩ = some b ∧ w.cell? ⟨g, 2, none⟩ = some c ∧ (w.frozen? ⟨g, 0, none⟩ = false ∧ w.frozen? ⟨g, 1, none⟩ = false ∧ w.frozen? ⟨g, 2, none⟩ = false) := ⟨h.cell 0, h.cell 1, h.cell 2, h.frozen 0, h.frozen 1, h.frozen 2⟩
/-- As regions that draw their order ask for them. -/
theorem Blk.three3 {a b c : Value} (h : Blk w g t #[a, b, c]) : ∀ (d : Nat) (os : Array Obj), (Sort.grow (redrawn w d) os).cell? ⟨g, 0, none⟩ = some a ∧ (Sort.grow (redrawn w d) os).cell? ⟨g, 1, none⟩ = some b ∧ (Sort.grow (redrawn w d) os).cell? ⟨g, 2, none⟩ = some c := fun d os => by
  have k := h.later (below_regrown w d os)
  exact ⟨k.cell 0, k.cell 1, k.cell 2⟩
theorem Blk.four {a b c d : Value} (h : Blk w g t #[a, b, c, d]) : (w.cell? ⟨g, 0, none⟩ = some a ∧ w.cell? ⟨g, 1, none⟩ = some b ∧ w.cell? ⟨g, 2, none⟩ = some c ∧ w.cell? ⟨g, 3, none⟩ = some d) ∧ (w.frozen? ⟨g, 0, none⟩ = false ∧ w.frozen? ⟨g, 1, none⟩ = false ∧ w.frozen? ⟨g, 2, none⟩ = false ∧ w.frozen? ⟨g, 3, none⟩ = false) := ⟨⟨h.cell 0, h.cell 1, h.cell 2, h.cell 3⟩, h.frozen 0, h.frozen 1, h.frozen 2, h.frozen 3⟩
theorem Blk.four4 {a b c d : Value} (h : Blk w g t #[a, b, c, d]) : ∀ (k : Nat) (os : Array Obj), (Sort.grow (redrawn w k) os).cell? ⟨g, 0, none⟩ = some a ∧ (Sort.grow (redrawn w k) os).cell? ⟨g, 1, none⟩ = some b ∧ (Sort.grow (redrawn w k) os).cell? ⟨g, 2, none⟩ = some c ∧ (Sort.grow (redrawn w k) os).cell? ⟨g, 3, none⟩ = some d := fun k os => by
  have h := h.later (below_regrown w k os)
  exact ⟨h.cell 0, h.cell 1, h.cell 2, h.cell 3⟩
theorem Blk.store3 {a b c : Value} (h : Blk w g t #[a, b, c]) (a' b' c' : Value) : Blk (((w.setCell ⟨g, 0, none⟩ a').setCell ⟨g, 1, none⟩ b').setCell ⟨g, 2, none⟩ c') g t #[a', b', c'] := ((h.set_ 0 a').set_ 1 b').set_ 2 c'
theorem Blk.store4 {a b c d : Value} (h : Blk w g t #[a, b, c, d]) (a' b' c' d' : Value) : Blk ((((w.setCell ⟨g, 0, none⟩ a').setCell ⟨g, 1, none⟩ b').setCell ⟨g, 2, none⟩ c').setCell ⟨g, 3, none⟩ d') g t #[a', b', c', d'] := (((h.set_ 0 a').set_ 1 b').set_ 2 c').set_ 3 d'
theorem below_set3 {B : Nat} (h : Below B w w') (hg : B ≤ g) (i j k : Nat) (a b c : Value) : Below B w (((w'.setCell ⟨g, i, none⟩ a).setCell ⟨g, j, none⟩ b).setCell ⟨g, k, none⟩ c) := ((h.setCell (p := ⟨g, i, none⟩) hg a).setCell (p := ⟨g, j, none⟩) hg b).setCell (p := ⟨g, k, none⟩) hg c
theorem Blk.keep {B : Nat} (h : Blk w g t cs) (hb : Below B w w') (hg : B ≤ g) : B ≤ g ∧ Below B w w' := ⟨hg, hb⟩
theorem OB.far {base : Nat} {A : Option Addr} {n c : Nat} {l : List UInt8} (h : OB w base A n c l) (hg : g < base) (i : Nat) (u : Value) : OB (w.setCell ⟨g, i, none⟩ u) base A n c l := by
  refine h.kept (row := some g) (grown_setCell (World.grownBy.refl _ _) (.inl rfl) u) ?_
  cases e : (Value.slice A n c).ownBlock with
  | none => exact .inl rfl
  | some k =>
    right
    intro he
    have := (h.lt k e).1
    injection he with he
    omega
theorem OV.far {base e size : Nat} {A : Option Addr} {n c : Nat} {l : List Value} (h : OV w base e size A n c l) (hg : g < base) (i : Nat) (u : Value) : OV (w.setCell ⟨g, i, none⟩ u) base e size A n c l := by
  refine h.kept (row := some g) (grown_setCell (World.grownBy.refl _ _) (.inl rfl) u) ?_
  cases e : (Value.slice A n c).ownBlock with
  | none => exact .inl rfl
  | some k =>
    right
    intro he
    have := (h.lt k e).1
    injection he with he
    omega
theorem RB.far {B : Nat} {A : Option Addr} {n c : Nat} {l : List UInt8} (h : RB w B A n c l) (hg : B ≤ g) (i : Nat) (u : Value) : RB (w.setCell ⟨g, i, none⟩ u) B A n c l :=
  h.keep fun q hq => World.cell?_setCell_other w ⟨g, i, none⟩ q u (fun e => by subst e; exact absurd hq (by show ¬ g < B; omega))
theorem OB.far3 {base : Nat} {A : Option Addr} {n c : Nat} {l : List UInt8} (h : OB w base A n c l) (hg : g < base) (i j k : Nat) (a b d : Value) : OB (((w.setCell ⟨g, i, none⟩ a).setCell ⟨g, j, none⟩ b).setCell ⟨g, k, none⟩ d) base A n c l := ((h.far hg i a).far hg j b).far hg k d
end
end Go.Proofs.YtbmocffnnlfnjaaGreat
/-
  Walks: the references' words Join, Lent, Kept, Spoil, Count.
  Conditions: none.
-/
namespace Go.Proofs.YtbmocffnnlfnjaaGreat
set_option linter.unusedVariables false
set_option linter.unusedSimpArgs false
open Go.RowKit
theorem etb : ET Tryz.prog 49 5 1 1 (.int .u8 0) := ⟨Tryz.underlying49, info_parts (by kernel_rfl), rfl, by decide⟩
theorem convb {w : World} {B : Nat} {A : Option Addr} {n c : Nat} {l : List UInt8} (h : RB w B A n c l) :
    (convert 49 9 (.slice A n c)).run Tryz.prog w = .ok (.string ⟨l.toArray⟩) w := h.conv 49 5 Tryz.underlying49 Tryz.underlying5 _ Tryz.underlying9

theorem convb_grow {w : World} {A : Option Addr} {n c B : Nat} {l : List UInt8} (h : RB w B A n c l) (hB : B ≤ w.heap.size) : ∀ (d : Nat) (os : Array Obj),
    (convert 49 9 (.slice A n c)).run Tryz.prog (Go.Sort.grow (redrawn w d) os) = .ok (.string ⟨l.toArray⟩) (Go.Sort.grow (redrawn w d) os) := fun d os => convb (h.below ((below_regrown w d os).mono hB))


set_option maxHeartbeats 400000 in
/-- Both, in new memory. -/
theorem Join_any {A : Option Addr} {n c B : Nat} {l : List UInt8} {A' : Option Addr} {n' c' B' : Nat} {l' : List UInt8} (w : World) (h : RB w B A n c l) (h' : RB w B' A' n' c' l') (hn : n + n' < 140737488355328) (hB : B ≤ w.heap.size) (hB' : B' ≤ w.heap.size) :
    Calls Tryz.prog 37 #[.slice A n c, .slice A' n' c'] w fun e w' => ∃ A1 c1, e = .returned (.slice A1 (n + n') c1) ∧ OB w' w.heap.size A1 (n + n') c1 (l ++ l') ∧ Below w.heap.size w w' := by
  go_enter Tryz.func37, Tryz.ntmps37
  go_wp2_with (first
    | (at_builtin; refine wpList_appb_nil etb rfl (.tmp 6) (.tmp 7) rfl rfl rfl w.heap.size h (by omega) (Nat.le_refl _) ?_; intro A1 c1 w1 h1 hb1)
    | (at_builtin; refine wpList_appb etb rfl (.tmp 9) (.tmp 10) rfl rfl rfl w.heap.size h1 (h'.below (hb1.mono hB')) (by omega) hb1.size ?_; intro A2 c2 w2 h2 hb2 _ _))
  go_ret
  exact ⟨_, _, rfl, h2, hb1.trans hb2⟩



set_option maxHeartbeats 400000 in
/-- It writes over bytes of the call's own, and behind them: to nothing else. -/
theorem Spoil_any {A : Option Addr} {n c base : Nat} {l : List UInt8} (w : World) (h : OB w base A n c l) (hn : n < 140737488355328) (hB : base ≤ w.heap.size) :
    Calls Tryz.prog 28 #[.slice A n c] w fun e w' => e = .returned (.tuple #[]) ∧ Below base w w' ∧ w.grownBy w' (Value.slice A n c).ownBlock := by
  go_enter Tryz.func28, Tryz.ntmps28
  go_wp2_with fail
  go_loopw [2] (fun i wr => ∃ (k : Nat) (l' : List UInt8), k ≤ n ∧ i = .int .i64 k ∧ OB wr base A n c l' ∧ Below base w wr ∧ w.grownBy wr (Value.slice A n c).ownBlock) (fun i _ => n - (intOf i).toNat)
  case atStart => exact ⟨0, l, Nat.zero_le _, rfl, h, Below.refl _ _, World.grownBy.refl _ _⟩
  case round =>
    obtain ⟨k, l', hk, rfl, hown, hbel, hgr⟩ := hrel
    by_cases hlt : k < n
    · obtain ⟨g, rfl, hbg, hlg⟩ := hown.head (by omega)
      have hck := hown.cell hlt
      have hfr := hown.free k
      have hx := byte_lt (l'.getD k 0)
      generalize hxe : l'.getD k 0 = x at *
      clear h hxe
      go_wp2
      go_roundw
      case rel =>
        have R := hown.setv k (x ^^^ 90) (u8_xor_bytes x 90)
        exact ⟨k + 1, _, by omega, by go_num, R.1, hbel.setCell (p := ⟨g, k, none⟩) hbg _, World.grownBy.trans hgr R.2⟩
      case measure => simp [intOf]; omega
    · obtain rfl : k = n := by omega
      go_wp2_with (at_builtin; refine wpList_appb_one etb rfl (.tmp 17) (.tmp 18) rfl rfl rfl base hown 99 rfl (by omega) (Nat.le_trans hB hbel.size) ?_; intro A1 c1 w1 h1 hb1 hg1 hloc; obtain ⟨g1, rfl, hg1b, hg1l⟩ := h1.head (by omega); have hc1 := h1.cell (i := k) (by omega); have hf1 := h1.free k)
      go_end0
      refine ⟨rfl, (hbel.trans hb1).setCell (p := ⟨g1, k, none⟩) hg1b _, grown_setCell (World.grownBy.trans hgr hg1) ?_ _⟩
      rcases hloc with e | e
      · exact .inl e
      · right
        have e : g1 = wr.heap.size + 1 := by simpa [Value.ownBlock] using e
        have := hbel.size
        show w.heap.size ≤ g1
        omega

end Go.Proofs.YtbmocffnnlfnjaaGreat
/-
  Walks: Split and Restricted of layer 11, and why a word can not be a PDO's.
  Conditions: none.
-/
namespace Go.Proofs.YtbmocffnnlfnjaaGreat
set_option linter.unusedVariables false
set_option linter.unusedSimpArgs false
open Go.RowKit
set_option maxRecDepth 100000 in
set_option maxHeartbeats 1000000 in
theorem CSplit_bad (v : Nat) (hv : v < 4294967296) (h : Cob.bad v = true) (w : World) : Calls Tryz.prog 38 #[.int .u32 (v : Int)] w fun e w' => e = .returned (.tuple #[.agg #[.bool false, .bool false, .int .i64 0], .int .i64 4]) ∧ Below w.heap.size w w' := by
  have e1 := Cob.andNot_top v hv
  have h2 : 2048 ≤ v % 1073741824 := by unfold Cob.bad at h; exact of_decide_eq_true h
  generalize v % 1073741824 = r at *
  have b0 := alloc_one w (.cells #[.bool false, .bool false, .int .i64 0] 77)
  have K := Blk.new w 77 #[.bool false, .bool false, .int .i64 0]
  have F := K.three
  clear h
  go_enter Tryz.func38, Tryz.ntmps38
  go_wp2_with fail
  have R := K.three
  exact bodyPost_ret (v := .tuple #[.agg #[.bool false, .bool false, .int .i64 0], .int .i64 4]) (by simp [results, Tryz.results38, go_sem, R]) rfl ⟨rfl, b0⟩
set_option maxRecDepth 100000 in
set_option maxHeartbeats 1000000 in
theorem CSplit_ok (v : Nat) (hv : v < 4294967296) (h : Cob.bad v = false) (w : World) : Calls Tryz.prog 38 #[.int .u32 (v : Int)] w fun e w' => e = .returned (.tuple #[.agg #[.bool (Cob.off v), .bool (Cob.noR v), .int .i64 (Cob.id v : Int)], .int .i64 0]) ∧ Below w.heap.size w w' := by
  have e1 := Cob.andNot_top v hv
  have e2 := Cob.and_off v hv
  have e3 := Cob.and_noR v hv
  have h2 : v % 1073741824 < 2048 := by unfold Cob.bad at h; have := of_decide_eq_false h; omega
  have hid : v % 1073741824 = Cob.id v := by unfold Cob.id; omega
  rw [hid] at e1 h2
  have e4 : wrap64 (Cob.id v : Int) = (Cob.id v : Int) := by unfold wrap64; omega
  generalize Cob.off v = o at *
  generalize Cob.noR v = nr at *
  generalize Cob.id v = i at *
  have b0 := alloc_one w (.cells #[.bool false, .bool false, .int .i64 0] 77)
  have K := Blk.new w 77 #[.bool false, .bool false, .int .i64 0]
  have F := K.three
  clear h hid
  go_enter Tryz.func38, Tryz.ntmps38
  go_wp2_with fail
  have R := (Blk.new w 77 #[.bool o, .bool nr, .int .i64 (i : Int)]).three
  exact bodyPost_ret (v := .tuple #[.agg #[.bool o, .bool nr, .int .i64 (i : Int)], .int .i64 0]) (by simp [results, Tryz.results38, go_sem, R]) rfl ⟨rfl, alloc_one _ _⟩
theorem cbetween_any (n a b : Int) (w : World) : Calls Tryz.prog 86 #[.int .i64 n, .int .i64 a, .int .i64 b] w fun e w' => e = .returned (.bool (decide (a ≤ n ∧ n ≤ b))) ∧ w = w' := by
  by_cases h1 : a ≤ n
  · by_cases h2 : n ≤ b
    · rw [decide_eq_true (And.intro h1 h2)]
      go_enter Tryz.func86, Tryz.ntmps86
      go_wp2_with fail
      go_ret
      exact ⟨rfl, rfl⟩
    · rw [decide_eq_false (fun h : a ≤ n ∧ n ≤ b => h2 h.2)]
      go_enter Tryz.func86, Tryz.ntmps86
      go_wp2_with fail
      go_ret
      exact ⟨rfl, rfl⟩
  · rw [decide_eq_false (fun h : a ≤ n ∧ n ≤ b => h1 h.1)]
    go_enter Tryz.func86, Tryz.ntmps86
    go_wp2_with fail
    go_ret
    exact ⟨rfl, rfl⟩
set_option maxHeartbeats 2000000 in
theorem Restricted_any (n : Int) (w : World) : Calls Tryz.prog 65 #[.int .i64 n] w fun e w' => e = .returned (.bool (Cob.restr n)) ∧ w = w' := by
  have B := fun a b => Lib.hid (fun w => cbetween_any n a b w)
  have B1 := B 257 384
  have B2 := B 1409 1535
  have B3 := B 1537 1663
  have B4 := B 1760 1791
  clear B
  have hr : Cob.restr n = (decide (n < 128) || decide (2047 < n) || decide (257 ≤ n ∧ n ≤ 384) || decide (1409 ≤ n ∧ n ≤ 1535) || decide (1537 ≤ n ∧ n ≤ 1663) || decide (1760 ≤ n ∧ n ≤ 1791) || decide (1792 < n)) := by
    unfold Cob.restr
    rw [Bool.eq_iff_iff]
    simp only [Bool.or_eq_true, decide_eq_true_eq, or_assoc]
  rw [hr]
  clear hr
  generalize hb1 : decide (257 ≤ n ∧ n ≤ 384) = b1 at *
  generalize hb2 : decide (1409 ≤ n ∧ n ≤ 1535) = b2 at *
  generalize hb3 : decide (1537 ≤ n ∧ n ≤ 1663) = b3 at *
  generalize hb4 : decide (1760 ≤ n ∧ n ≤ 1791) = b4 at *
  clear hb1 hb2 hb3 hb4
  by_cases h1 : n < 128
  · simp only [h1, decide_true, Bool.true_or]
    go_enter Tryz.func65, Tryz.ntmps65
    go_wp2_with fail
    go_ret
    exact ⟨rfl, rfl⟩
  · by_cases h2 : 2047 < n
    · simp only [h1, h2, decide_true, Bool.true_or, Bool.or_true]
      go_enter Tryz.func65, Tryz.ntmps65
      go_wp2_with fail
      go_ret
      exact ⟨rfl, rfl⟩
    · simp only [h1, h2, decide_false, Bool.false_or]
      go_enter Tryz.func65, Tryz.ntmps65
      go_wp2_with fail
      refine (B1.out _).mono ?_
      rintro e _ ⟨rfl, rfl⟩
      cases b1
      · go_wp2_with fail
        refine (B2.out _).mono ?_
        rintro e _ ⟨rfl, rfl⟩
        cases b2
        · go_wp2_with fail
          refine (B3.out _).mono ?_
          rintro e _ ⟨rfl, rfl⟩
          cases b3
          · go_wp2_with fail
            refine (B4.out _).mono ?_
            rintro e _ ⟨rfl, rfl⟩
            cases b4
            · by_cases h3 : 1792 < n
              · go_wp2_with fail
                go_ret
                exact ⟨by simp [h3], rfl⟩
              · go_wp2_with fail
                go_ret
                exact ⟨by simp [h3], rfl⟩
            · go_wp2_with fail
              go_ret
              exact ⟨rfl, rfl⟩
          · go_wp2_with fail
            go_ret
            exact ⟨rfl, rfl⟩
        · go_wp2_with fail
          go_ret
          exact ⟨rfl, rfl⟩
      · go_wp2_with fail
        go_ret
        exact ⟨rfl, rfl⟩
end Go.Proofs.YtbmocffnnlfnjaaGreat
/-
  Walks: why a word can not be a PDO's, of layers 31 and 32.
  Conditions: none.
-/
namespace Go.Proofs.YtbmocffnnlfnjaaGreat
set_option linter.unusedVariables false
set_option linter.unusedSimpArgs false
open Go.RowKit
set_option maxRecDepth 100000 in
set_option maxHeartbeats 1000000 in
theorem tplace_any (v : Nat) (hv : v < 4294967296) (w : World) : Calls Tryz.prog 39 #[.int .u32 (v : Int)] w fun e w' => e = .returned (.int .u32 (Cob.place v)) ∧ Below w.heap.size w w' := by
  unfold Cob.place
  cases hb : Cob.bad v
  · have SP := Lib.hid (fun w => CSplit_ok v hv hb w)
    have RE := Lib.hid (fun w => Restricted_any (Cob.id v : Int) w)
    clear hb
    simp only [Bool.false_eq_true, if_false]
    generalize Cob.restr (Cob.id v : Int) = rs at *
    generalize (Cob.id v : Int) = i at *
    generalize Cob.noR v = nr at *
    cases ho : Cob.off v
    · rw [ho] at SP
      clear ho
      cases rs
      all_goals
        simp only [Bool.false_eq_true, and_false, if_false, and_self, if_true, true_and]
        go_enter Tryz.func39, Tryz.ntmps39
        go_wp2_with fail
        refine (SP.out _).mono ?_
        rintro e w1 ⟨rfl, b1⟩
        have b2 := alloc_one w1 (.cells #[.bool false, .bool nr, .int .i64 i] 77)
        have K := (Blk.new w1 77 #[.bool false, .bool nr, .int .i64 i]).three
        go_wp2_with fail
        refine (RE.out _).mono ?_
        rintro e _ ⟨rfl, rfl⟩
        go_wp2_with fail
        go_ret
        exact ⟨rfl, below_step b1 b2 (Nat.le_refl _)⟩
    · rw [ho] at SP
      clear ho
      simp only [Bool.true_eq_false, false_and, if_false]
      go_enter Tryz.func39, Tryz.ntmps39
      go_wp2_with fail
      refine (SP.out _).mono ?_
      rintro e w1 ⟨rfl, b1⟩
      have b2 := alloc_one w1 (.cells #[.bool true, .bool nr, .int .i64 i] 77)
      have K := (Blk.new w1 77 #[.bool true, .bool nr, .int .i64 i]).three
      go_wp2_with fail
      go_ret
      exact ⟨rfl, below_step b1 b2 (Nat.le_refl _)⟩
  · have SP := Lib.hid (fun w => CSplit_bad v hv hb w)
    clear hb
    simp only [if_true]
    go_enter Tryz.func39, Tryz.ntmps39
    go_wp2_with fail
    refine (SP.out _).mono ?_
    rintro e w1 ⟨rfl, b1⟩
    have b2 := alloc_one w1 (.cells #[.bool false, .bool false, .int .i64 0] 77)
    have K := (Blk.new w1 77 #[.bool false, .bool false, .int .i64 0]).three
    go_wp2_with fail
    go_ret
    exact ⟨rfl, below_step b1 b2 (Nat.le_refl _)⟩
end Go.Proofs.YtbmocffnnlfnjaaGreat
/-
  Strings as lists of bytes: cuts, places, sums, under one name.
  Conditions: none.
-/
namespace Go.Proofs.YtbmocffnnlfnjaaGreat
set_option linter.unusedVariables false
set_option linter.unusedSimpArgs false
open Go.RowKit
/-- A list of bytes as a string. -/
def T (s : List UInt8) : ByteArray := ⟨s.toArray⟩
theorem T_inj {a b : List UInt8} (h : T a = T b) : a = b := by
  unfold T at h
  injection h with h
  simpa using h
theorem T_ne {a b : List UInt8} (h : a ≠ b) : T a ≠ T b := fun e => h (T_inj e)
theorem toList_loop (bs : ByteArray) : ∀ (d i : Nat) (r : List UInt8), bs.size - i = d → ByteArray.toList.loop bs i r = r.reverse ++ bs.data.toList.drop i := by
  intro d
  induction d with
  | zero =>
    intro i r h
    have h2 : bs.data.toList.length ≤ i := by show bs.data.size ≤ i; have : bs.size = bs.data.size := rfl; omega
    rw [ByteArray.toList.loop, if_neg (by omega), List.drop_of_length_le h2, List.append_nil]
  | succ d ih =>
    intro i r h
    have hi : i < bs.size := by omega
    have hi' : i < bs.data.toList.length := hi
    rw [ByteArray.toList.loop, if_pos hi, ih (i + 1) _ (by omega), List.drop_eq_getElem_cons hi', List.reverse_cons, List.append_assoc]
    congr 2
    rw [List.cons_append, List.nil_append]
    congr 1
    have h3 : bs.get! i = bs[i] := by simp [ByteArray.get!, getElem!_pos, hi]; rfl
    rw [h3]
    rfl
theorem T_toList (s : List UInt8) : (T s).toList = s := by
  have := toList_loop (T s) _ 0 [] rfl
  exact this.trans (by simp [T])
theorem T_size (s : List UInt8) : (T s).size = s.length := by show s.toArray.size = _; simp
theorem T_of (t : ByteArray) : ∃ s, t = T s := ⟨t.data.toList, by cases t; simp [T]⟩
theorem T_get (s : List UInt8) (k : Nat) (h : k < (T s).size) : (T s)[k]'h = s.getD k 0 := by
  have h' : k < s.length := by rw [T_size] at h; exact h
  show s.toArray[k] = _
  simp [List.getD, h']
theorem T_append (a b : List UInt8) : T a ++ T b = T (a ++ b) := by
  apply ByteArray.ext
  simp [T]
theorem T_extract (s : List UInt8) (i j : Nat) : (T s).extract i j = T ((s.take j).drop i) := by
  apply ByteArray.ext
  simp [T, List.extract_toArray, List.drop_take]
theorem run_T_at (s : List UInt8) (kd : IntKind) (z : Int) (k : Nat) (hz : z = (k : Int)) (hk : k < s.length) (w : World) :
    (Instr.index 9 (.string (T s)) (.int kd z)).run Tryz.prog w = .ok (.int .u8 ((s.getD k 0).toNat : Int)) w := by
  subst hz
  rw [run_index_string w _ _ kd _ Tryz.underlying9, dif_pos ⟨by omega, by rw [T_size]; exact Int.ofNat_lt.2 hk⟩]
  have e : ((k : Int)).toNat = k := by omega
  simp only [e, T_get]
theorem run_T_add (s t : List UInt8) (h : s.length + t.length ≤ 9223372036854775807) (w : World) : (Op.stringOp .add (T s) (T t)).run Tryz.prog w = .ok (.string (T (s ++ t))) w := by
  rw [run_string_add_sum w _ _ (by rw [T_size, T_size]; exact h), T_append]
/-- 's[i:j]' -/
theorem run_T_cut (s : List UInt8) (k1 k2 : IntKind) (z1 z2 : Int) (i j : Nat) (h1 : z1 = (i : Int)) (h2 : z2 = (j : Int)) (hij : i ≤ j) (hj : j ≤ s.length) (hs : s.length ≤ 9223372036854775807) (w : World) :
    (Instr.slice 9 (.string (T s)) (some (.int k1 z1)) (some (.int k2 z2)) none).run Tryz.prog w = .ok (.string (T ((s.take j).drop i))) w := by
  subst h1 h2
  have b1 : ∀ code, (Instr.sliceBound (.int k2 (j : Int)) (T s).size code).run Tryz.prog w = .ok j w := fun code => by
    rw [run_sliceBound w k2 _ _ code (by omega) (by rw [T_size]; omega)]; congr 1
  have b2 : ∀ code, (Instr.sliceBound (.int k1 (i : Int)) j code).run Tryz.prog w = .ok i w := fun code => by
    rw [run_sliceBound w k1 _ _ code (by omega) (by omega)]; congr 1
  simp [Instr.slice, run_underlying Tryz.underlying9, Instr.sliceBounds, b1, b2, T_extract, go_sem]
  intro h
  omega
/-- 's[:j]' -/
theorem run_T_head (s : List UInt8) (k2 : IntKind) (z2 : Int) (j : Nat) (h2 : z2 = (j : Int)) (hj : j ≤ s.length) (w : World) :
    (Instr.slice 9 (.string (T s)) none (some (.int k2 z2)) none).run Tryz.prog w = .ok (.string (T (s.take j))) w := by
  subst h2
  have b1 : ∀ code, (Instr.sliceBound (.int k2 (j : Int)) (T s).size code).run Tryz.prog w = .ok j w := fun code => by
    rw [run_sliceBound w k2 _ _ code (by omega) (by rw [T_size]; omega)]; congr 1
  simp [Instr.slice, run_underlying Tryz.underlying9, Instr.sliceBounds, b1, T_extract, go_sem]
/-- 's[i:]' -/
theorem run_T_rest (s : List UInt8) (k1 : IntKind) (z1 : Int) (i : Nat) (h1 : z1 = (i : Int)) (hi : i ≤ s.length) (w : World) :
    (Instr.slice 9 (.string (T s)) (some (.int k1 z1)) none none).run Tryz.prog w = .ok (.string (T (s.drop i))) w := by
  subst h1
  have b1 : ∀ code, (Instr.sliceBound (.int k1 (i : Int)) (T s).size code).run Tryz.prog w = .ok i w := fun code => by
    rw [run_sliceBound w k1 _ _ code (by omega) (by rw [T_size]; omega)]; congr 1
  have e : (T s).extract i (T s).size = T (s.drop i) := by rw [T_extract, T_size, List.take_length]
  simp [Instr.slice, run_underlying Tryz.underlying9, Instr.sliceBounds, b1, e, go_sem]
end Go.Proofs.YtbmocffnnlfnjaaGreat
/-
  The row's frame: what an argument that reads as bytes is in memory.
  Conditions: none.
-/
namespace Go.Proofs.YtbmocffnnlfnjaaGreat
set_option linter.unusedVariables false
set_option linter.unusedSimpArgs false
open Go.ChangeShapes Go.WideShapes Go.ChangeAt Go.RowKit
theorem wf_u8 {n : Int} (h : (Lit.int .u8 n).wf = true) : 0 ≤ n ∧ n ≤ 255 := bounds_u8 h
section
variable {H : Type} {enc : TypeId × Value → H} {P : Program} {w : World} {spare : Nat → Bool} {held : Bool}
/-- An argument '[]byte'. -/
theorem open_bytes {t e : TypeId} {A : Option Addr} {n c : Nat} {x : DataW H × List MemPlace} {fuel : Nat} (ht : P.underlying t = some (.slice e)) (he : P.underlying e = some (.int .u8)) (hc : P.cellsOf e = 1)
    (h : DataW.trod enc P w 0 spare held fuel t [.slice A n c] = some x) : ∃ l, RB w w.heap.size A n c l := by
  rcases open_ints ht he hc h with ⟨hcs, _⟩ | ⟨a, len, cap, zs, hcs, _, hl, hm, hz, _, hcell, hwz⟩
  · simp at hcs
    obtain ⟨rfl, rfl, rfl⟩ := hcs
    exact ⟨[], RB.none_⟩
  · simp at hcs
    obtain ⟨rfl, rfl, rfl⟩ := hcs
    have hzl : n ≤ zs.length := by rw [hz]; split <;> omega
    refine ⟨(zs.take n).map fun z => UInt8.ofNat z.toNat, by simp; omega, hl, by simpa [maxLen] using hm, (fun e => by cases e), fun hn => ?_⟩
    obtain ⟨b, off, spot⟩ := a
    have h0 := hcell 0 (by omega)
    have hspot : spot = none := by simpa [Addr.add] using World.cell?_spot h0
    subst hspot
    refine ⟨b, off, rfl, ?_, fun i hi => ?_⟩
    · have := World.block_lt_of_cell? w _ h0
      simpa [Addr.add_lit] using this
    · have h1 := hcell i (by omega)
      rw [Addr.add_lit] at h1
      rw [h1]
      have hil : i < zs.length := by omega
      have hw := bounds_u8 (hwz zs[i] (List.getElem_mem hil))
      have e1 : zs.getD i 0 = zs[i] := by simp [List.getD, hil]
      have e2 : ((zs.take n).map fun z => UInt8.ofNat z.toNat).getD i 0 = UInt8.ofNat zs[i].toNat := by
        simp [List.getD, hil, hi]
      rw [e1, e2, UInt8.toNat_ofNat']
      congr 2
      omega
end
end Go.Proofs.YtbmocffnnlfnjaaGreat
