/-
  Slices of frames with a footprint; append of a slice whose room is used up.
  Conditions: none.
-/
import Derived.Test.YtmhcobhpdlpoeaaFoot
import Derived.Test.YtmhcobhpdlpoeaaFrmOwn
import Derived.ArgAppend
namespace Go.Proofs.Ytmhcobhpdlpoeaa
set_option linter.unusedVariables false
set_option linter.unusedSimpArgs false
open Go.RowKit
/-- The cells of a frame, its bytes in a block of F. -/
def FrP (w : World) (F : Nat → Prop) (f : Can.Fr) (cs : List Value) : Prop := ∃ A n c, cs = [.int .i64 f.id, .bool f.rem, .slice A n c] ∧ RBp w F A n c f.data
def RFp (w : World) (F : Nat → Prop) (A : Option Addr) (n c : Nat) (fs : List Can.Fr) : Prop := ∃ xs, RVp w F 3 A n c xs ∧ Rows (FrP w F) 3 fs xs
section
variable {F G : Nat → Prop} {w w' : World} {A : Option Addr} {n c : Nat} {f : Can.Fr} {fs : List Can.Fr} {cs : List Value}
theorem FrP.mono (h : FrP w F f cs) (hi : ∀ b, b < w.heap.size → F b → G b) : FrP w G f cs := by
  obtain ⟨A, n, c, h1, h2⟩ := h
  exact ⟨A, n, c, h1, h2.mono hi⟩
theorem FrP.mv (h : FrP w F f cs) (hm : Mv G w w') (hd : ∀ b, b < w.heap.size → F b → ¬ G b) : FrP w' F f cs := by
  obtain ⟨A, n, c, h1, h2⟩ := h
  exact ⟨A, n, c, h1, h2.mv hm hd⟩
theorem FrP.below (h : FrP w F f cs) (hb : Below w.heap.size w w') : FrP w' F f cs := by
  obtain ⟨A, n, c, h1, h2⟩ := h
  exact ⟨A, n, c, h1, h2.below hb⟩
theorem FrP.frC (h : FrP w F f cs) : FrC w w.heap.size f cs := by
  obtain ⟨A, n, c, h1, h2⟩ := h
  exact ⟨A, n, c, h1, h2.rb⟩
theorem RFp.none_ (w : World) (F : Nat → Prop) : RFp w F none 0 0 [] := ⟨[], RVp.none_ _ _ _, Rows.nil⟩
theorem RFp.mono (h : RFp w F A n c fs) (hi : ∀ b, b < w.heap.size → F b → G b) : RFp w G A n c fs := by
  obtain ⟨xs, h1, h2⟩ := h
  exact ⟨xs, h1.mono hi, h2.imp fun _ _ hr => hr.mono hi⟩
theorem RFp.mv (h : RFp w F A n c fs) (hm : Mv G w w') (hd : ∀ b, b < w.heap.size → F b → ¬ G b) : RFp w' F A n c fs := by
  obtain ⟨xs, h1, h2⟩ := h
  exact ⟨xs, h1.mv hm hd, h2.imp fun _ _ hr => hr.mv hm hd⟩
theorem RFp.below (h : RFp w F A n c fs) (hb : Below w.heap.size w w') : RFp w' F A n c fs := by
  obtain ⟨xs, h1, h2⟩ := h
  exact ⟨xs, h1.below hb, h2.imp fun _ _ hr => hr.below hb⟩
theorem RFp.rf (h : RFp w F A n c fs) : RF w w.heap.size A n c fs := by
  obtain ⟨xs, h1, h2⟩ := h
  exact ⟨xs, h1.rv, h2.imp fun _ _ hr => hr.frC⟩
theorem RFp.len (h : RFp w F A n c fs) : fs.length = n := h.rf.len
theorem RFp.take (h : RFp w F A n c fs) {k : Nat} (hk : k ≤ n) {c' : Nat} (hc' : c' ≤ c) (hkc : k ≤ c') : RFp w F A k c' (fs.take k) := by
  have hl := h.len
  obtain ⟨xs, h1, h2⟩ := h
  exact ⟨_, h1.take hk hc' hkc, h2.take k (by omega)⟩
theorem RFp.drop (h : RFp w F A n c fs) {k : Nat} (hk : k ≤ n) : RFp w F (if c = k then A else A.map (·.add (k * 3))) (n - k) (c - k) (fs.drop k) := by
  obtain ⟨xs, h1, h2⟩ := h
  exact ⟨_, h1.drop hk, h2.drop k⟩
end
/-- A row of frames of the call's own: its block lies in F, and so do its frames' bytes, in other blocks. -/
def OFp (w : World) (F : Nat → Prop) (A : Option Addr) (n c : Nat) (fs : List Can.Fr) : Prop :=
  ∃ xs, OV w 0 29 3 A n c xs ∧ (∀ k, (Value.slice A n c).ownBlock = some k → F k) ∧ Rows (FrP w (fun b => F b ∧ some b ≠ (Value.slice A n c).ownBlock)) 3 fs xs
section
variable {F G : Nat → Prop} {w w' : World} {A : Option Addr} {n c : Nat} {f : Can.Fr} {fs : List Can.Fr} {cs : List Value}
theorem OFp.none_ (w : World) (F : Nat → Prop) : OFp w F none 0 0 [] := ⟨[], OV.none_ _ _ _ _, (fun k h => by cases h), Rows.nil⟩
theorem OFp.rfp (h : OFp w F A n c fs) : RFp w F A n c fs := by
  obtain ⟨xs, h1, h2, h3⟩ := h
  exact ⟨xs, h1.rvp h2, h3.imp fun _ _ hr => hr.mono fun _ _ h => h.1⟩
theorem OFp.mono (h : OFp w F A n c fs) (hi : ∀ b, b < w.heap.size → F b → G b) : OFp w G A n c fs := by
  obtain ⟨xs, h1, h2, h3⟩ := h
  exact ⟨xs, h1, fun k hk => hi k (h1.lt k hk).2 (h2 k hk), h3.imp fun _ _ hr => hr.mono fun b hb h => ⟨hi b hb h.1, h.2⟩⟩
theorem OV.mv {base e size : Nat} {xs : List Value} (h : OV w base e size A n c xs) (hm : Mv G w w') (hd : ∀ k, (Value.slice A n c).ownBlock = some k → ¬ G k) : OV w' base e size A n c xs := by
  refine ⟨h.1, ?_⟩
  rcases h.2 with h2 | ⟨g, cap, cur, hv, hg, hh, r⟩
  · exact .inl h2
  · exact .inr ⟨g, cap, cur, hv, hg, (hm.block g (Array.getElem?_eq_some_iff.1 hh).1 (hd g (by rw [hv]; rfl))).trans hh, r⟩
theorem OFp.mv (h : OFp w F A n c fs) (hm : Mv G w w') (hd : ∀ b, b < w.heap.size → F b → ¬ G b) : OFp w' F A n c fs := by
  obtain ⟨xs, h1, h2, h3⟩ := h
  exact ⟨xs, h1.mv hm fun k hk => hd k (h1.lt k hk).2 (h2 k hk), h2, h3.imp fun _ _ hr => hr.mv hm fun b hb h => hd b hb h.1⟩
theorem OFp.below (h : OFp w F A n c fs) (hb : Below w.heap.size w w') : OFp w' F A n c fs := h.mv (Mv.of_new hb fun _ => False) fun _ _ _ h => h
end
theorem frow_oneCell {w : World} {F : Nat → Prop} : ∀ {fs : List Can.Fr} {xs : List Value}, Rows (FrP w F) 3 fs xs → ∀ u ∈ xs, u.oneCell' = true := by
  intro fs xs h u hu
  obtain ⟨j, hj, rfl⟩ := List.getElem_of_mem hu
  have hl := h.len
  have hi : j / 3 < fs.length := by omega
  obtain ⟨A, n, c, e, _⟩ := h.2 (j / 3) _ (List.getElem?_eq_getElem hi)
  have e0 : ((xs.drop (j / 3 * 3)).take 3)[j % 3]? = some xs[j] := by
    rw [List.getElem?_take, if_pos (by omega), List.getElem?_drop, show j / 3 * 3 + j % 3 = j by omega, List.getElem?_eq_getElem hj]
  rw [e] at e0
  rcases (show j % 3 = 0 ∨ j % 3 = 1 ∨ j % 3 = 2 by omega) with h3 | h3 | h3 <;> rw [h3] at e0 <;> simp at e0 <;> rw [← e0] <;> rfl
/-- 'append(x, y...)', all the room of x used up: a new row. -/
theorem run_app_full {P : Program} {T E size bytes : Nat} {z : Value} (ht : ET P T E size bytes z) (ty : TypeId) (w : World) {B n : Nat} {A : Option Addr} {xs : List Value} (hx : RV w B size A n n xs)
    {B' : Nat} {A' : Option Addr} {m c' : Nat} {news : List Value} (hr : RV w B' size A' m c' news) (hm : 0 < m) (h1 : ∀ u ∈ news, u.oneCell' = true)
    (hbytes : (n + m) * bytes ≤ 140737488355328) (h63 : n + m ≤ 9223372036854775807) :
    ∃ A1 c1 w1, (Builtin.append_ #[T, T] ty #[.slice A n n, .slice A' m c']).run P w = .ok (.slice A1 (n + m) c1) w1 ∧ OV w1 w.heap.size E size A1 (n + m) c1 (xs ++ news) ∧ Below w.heap.size w w1 := by
  obtain ⟨i, hi, hz, hs, hb⟩ := ht.info
  have h63' : n + m ≤ maxLen := by simpa [maxLen] using h63
  have form : ∀ {v : Value} {w1 : World} {k : Nat} {ys : List Value}, w1.ownsRow w.heap.size E size v k ys → ∃ A1 c1, v = .slice A1 k c1 := by
    intro v w1 k ys h
    rcases h.2 with ⟨rfl, rfl⟩ | ⟨g, cap, cur, rfl, _⟩
    · exact ⟨_, _, rfl⟩
    · exact ⟨_, _, rfl⟩
  have fin : ∀ {w1 : World}, w.grownBy w1 none → Below w.heap.size w w1 := fun hg => (Below.refl _ w).grown hg (Nat.le_refl _) fun k hk => by cases hk
  obtain ⟨b', o', rfl, _, hc'⟩ := hr.at_ hm
  have hnews : ∀ j u, news[j]? = some u → w.cell? ((⟨b', o', none⟩ : Addr).add j) = some u := fun j u hu => by rw [Addr.add_lit]; exact hc' j u hu
  rcases A with _ | ad
  · obtain ⟨rfl, _⟩ := hx.nil rfl
    obtain rfl : xs = [] := List.eq_nil_of_length_eq_zero (by simpa using hx.len)
    obtain ⟨v', w', hrun, r1, r2, _⟩ := run_append_own (P := P) w w.heap.size T ty E i z size bytes ht.sl hi hz hs hb ht.zc ht.pos (.slice none 0 0) 0 [] (World.ownsRow_nil w _ E size) _ m c' news hr.len hnews h1 h63' hbytes (Nat.le_refl _)
    obtain ⟨A1, c1, rfl⟩ := form r1
    exact ⟨A1, c1, w', hrun, r1, fin r2⟩
  · have holds : ∀ j u, xs[j]? = some u → w.cell? (ad.add j) = some u := by
      intro j u hu
      rcases Nat.eq_zero_or_pos n with h0 | h0
      · subst h0
        obtain rfl : xs = [] := List.eq_nil_of_length_eq_zero (by simpa using hx.len)
        simp at hu
      · obtain ⟨b, o, e, _, hc⟩ := hx.at_ h0
        injection e with e
        subst e
        rw [Addr.add_lit]
        exact hc j u hu
    obtain ⟨v', w', hrun, r1, r2⟩ := run_append_arg_grows (P := P) w T ty E i z size bytes ht.sl hi hz hs hb ht.zc ht.pos ad n n xs hx.len holds _ m c' news hr.len hnews (by omega) h63' hbytes
    obtain ⟨A1, c1, rfl⟩ := form r1
    exact ⟨A1, c1, w', hrun, r1, fin r2⟩
theorem wpList_app_full {P : Program} {T E size bytes : Nat} {z : Value} (ht : ET P T E size bytes z) {w : World} {ops : Array Oper} {rest : List Oper} {o : Oper} {a : Act} {Q : Exit → Act → World → Prop} (hgd : o.guard = none) (s x : Operand)
    (ho : o.op = .call { callee := .builtin .append, args := #[s, x], argTypes := #[T, T] })
    {A : Option Addr} {n : Nat} (hs : a.eval s = .slice A n n) {A' : Option Addr} {m c' : Nat} (hx : a.eval x = .slice A' m c')
    {B : Nat} {xs : List Value} (hown : RV w B size A n n xs) {B' : Nat} {news : List Value} (hr : RV w B' size A' m c' news) (hm : 0 < m) (h1 : ∀ u ∈ news, u.oneCell' = true)
    (hbytes : (n + m) * bytes ≤ 140737488355328) (h63 : n + m ≤ 9223372036854775807)
    (h : ∀ A1 c1 w1, OV w1 w.heap.size E size A1 (n + m) c1 (xs ++ news) → Below w.heap.size w w1 → wpList P ops Q rest (a.put o.dst (.slice A1 (n + m) c1)) w1) :
    wpList P ops Q (o :: rest) a w := by
  refine wpList_plain hgd fun K hK => ?_
  obtain ⟨A1, c1, w1, hrun, h2, h3⟩ := run_app_full ht o.type w hown hr hm h1 hbytes h63
  unfold Oper.wp execOp
  simp only [ho, resolve, invoke, builtin, Sem.run_bind, Sem.run_pure, Result.andThen_ok, List.map_toArray, List.map_cons, List.map_nil, hs, hx, hrun]
  exact hK _ _ (h A1 c1 w1 h2 h3)
/-- 'append(x, f)': the frame lies in a block of its own; its bytes lie where they lie. -/
theorem wpList_appfp {w : World} {ops : Array Oper} {rest : List Oper} {o : Oper} {a : Act} {Q : Exit → Act → World → Prop} (hgd : o.guard = none) (s x : Operand)
    (ho : o.op = .call { callee := .builtin .append, args := #[s, x], argTypes := #[22, 22] })
    {A : Option Addr} {n c : Nat} (hs : a.eval s = .slice A n c) {g : Nat} (hx : a.eval x = .slice (some ⟨g, 0, none⟩) 1 1) (hgw : g = w.heap.size)
    {F : Nat → Prop} {l : List Can.Fr} (hown : OFp w F A n c l) (f : Can.Fr) {A' : Option Addr} {m c' : Nat} (hf : RBp w (fun b => F b ∧ some b ≠ (Value.slice A n c).ownBlock) A' m c' f.data)
    (hbytes : n + 1 ≤ 1000000)
    (h : ∀ A1 c1 w1, OFp w1 (fun b => F b ∨ w.heap.size ≤ b) A1 (n + 1) c1 (l ++ [f]) → w.grownBy w1 (Value.slice A n c).ownBlock → ((Value.slice A1 (n + 1) c1).ownBlock = (Value.slice A n c).ownBlock ∨ (Value.slice A1 (n + 1) c1).ownBlock = some (w.heap.size + 1)) →
      wpList Try.prog ops Q rest (a.put o.dst (.slice A1 (n + 1) c1)) w1) :
    wpList Try.prog ops Q (o :: rest) a (w.alloc (.cells #[.int .i64 f.id, .bool f.rem, .slice A' m c'] 29)) := by
  subst hgw
  obtain ⟨xs, h1, h2, h3⟩ := hown
  have hnew := (OV.new (base := 0) (e := 29) (size := 3) w [.int .i64 f.id, .bool f.rem, .slice A' m c'] 1 rfl (by omega) (Nat.zero_le _)).rv
  refine wpList_app etf hgd s x ho hs hx 0 (h1.alloc _) hnew (frame_oneCell f A' m c') (by omega) (by omega) (Nat.zero_le _) fun A1 c1 w1 k1 k2 hloc => ?_
  have hg : w.grownBy w1 (Value.slice A n c).ownBlock := World.grownBy.trans (World.grownBy_alloc w _ _) k2
  have hloc' : (Value.slice A1 (n + 1) c1).ownBlock = (Value.slice A n c).ownBlock ∨ (Value.slice A1 (n + 1) c1).ownBlock = some (w.heap.size + 1) := by simpa using hloc
  have M := Mv.of_grown hg
  have own5' : ∀ b, b < w.heap.size → some b ≠ (Value.slice A n c).ownBlock → some b ≠ (Value.slice A1 (n + 1) c1).ownBlock := fun b hb hne e => by
    rcases hloc' with e' | e'
    · exact hne (e.trans e')
    · rw [e'] at e
      injection e with e
      omega
  refine h A1 c1 w1 ⟨_, k1, fun k hk => ?_, Rows.append (h3.imp fun g cs hr => ?_) (Rows.one ⟨A', m, c', rfl, ?_⟩ rfl)⟩ hg hloc'
  · rcases hloc' with e | e
    · exact .inl (h2 k (by rw [← e]; exact hk))
    · rw [hk] at e
      injection e with e
      exact .inr (by omega)
  · have h4 := hr.mono (G := fun b => ((F b ∨ w.heap.size ≤ b) ∧ some b ≠ (Value.slice A1 (n + 1) c1).ownBlock) ∧ some b ≠ (Value.slice A n c).ownBlock) fun b hb h => ⟨⟨.inl h.1, own5' b hb h.2⟩, h.2⟩
    exact (h4.mv M fun b _ h e => h.2 e).mono fun b _ h => h.1
  · have h4 := hf.mono (G := fun b => ((F b ∨ w.heap.size ≤ b) ∧ some b ≠ (Value.slice A1 (n + 1) c1).ownBlock) ∧ some b ≠ (Value.slice A n c).ownBlock) fun b hb h => ⟨⟨.inl h.1, own5' b hb h.2⟩, h.2⟩
    exact (h4.mv M fun b _ h e => h.2 e).mono fun b _ h => h.1
theorem RFp.at_ {fs : List Can.Fr} {w : World} {G : Nat → Prop} {A : Option Addr} {n c : Nat} (h : RFp w G A n c fs) {i : Nat} (hi : i < n) : ∃ b o A' n' c', A = some ⟨b, o, none⟩ ∧ b < w.heap.size ∧ w.cell? ⟨b, o + i * 3, none⟩ = some (.int .i64 (fs.getD i Can.zero).id) ∧
    w.cell? ⟨b, o + i * 3 + 1, none⟩ = some (.bool (fs.getD i Can.zero).rem) ∧ w.cell? ⟨b, o + i * 3 + 2, none⟩ = some (.slice A' n' c') ∧ RBp w G A' n' c' (fs.getD i Can.zero).data := by
  have hl := h.len
  obtain ⟨xs, h1, h2⟩ := h
  obtain ⟨b, o, rfl, hF, hb, hc⟩ := h1.at_ (by omega)
  have hf : fs[i]? = some (fs.getD i Can.zero) := by simp [List.getD, List.getElem?_eq_getElem (show i < fs.length by omega)]
  obtain ⟨A', n', c', e, hr⟩ := h2.2 i _ hf
  have e0 : ∀ j, ((xs.drop (i * 3)).take 3)[j]? = if j < 3 then xs[i * 3 + j]? else none := fun j => by rw [List.getElem?_take, List.getElem?_drop]
  rw [e] at e0
  refine ⟨b, o, A', n', c', rfl, hb, ?_, ?_, ?_, hr⟩
  · exact hc (i * 3) _ (by have := e0 0; simpa using this.symm)
  · have := hc (i * 3 + 1) _ (by have := e0 1; simpa using this.symm)
    rw [← Nat.add_assoc] at this
    exact this
  · have := hc (i * 3 + 2) _ (by have := e0 2; simpa using this.symm)
    rw [← Nat.add_assoc] at this
    exact this
end Go.Proofs.Ytmhcobhpdlpoeaa
