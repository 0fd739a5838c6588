/-
  Walk: txq's List once more: its frames' bytes lie in blocks that differ. What TxqPlays does with such a list.
  Conditions: none.
-/
import Derived.Test.YtmhcobhpdlpoeaaKnown
namespace Go.Proofs.Ytmhcobhpdlpoeaa
set_option linter.unusedVariables false
set_option linter.unusedSimpArgs false
open Go.RowKit
/-- A slice of frames of the call's own, whose bytes lie in blocks that differ, below m. -/
def OFd (w : World) (base m : Nat) (A : Option Addr) (n c : Nat) (fs : List Can.Fr) : Prop :=
  ∃ xs, OV w base 29 3 A n c xs ∧ Rows (FrO w base) 3 fs xs ∧ (∀ i u q, xs[i * 3 + 2]? = some u → u.ownBlock = some q → q < m) ∧
    ∀ i j u v, i < j → xs[i * 3 + 2]? = some u → xs[j * 3 + 2]? = some v → v.ownBlock = none ∨ v.ownBlock ≠ u.ownBlock
theorem OFd.ofs {w : World} {base m : Nat} {A : Option Addr} {n c : Nat} {fs : List Can.Fr} (h : OFd w base m A n c fs) : OFs w base A n c fs := by
  obtain ⟨xs, h1, h2, _⟩ := h
  exact ⟨xs, h1, h2⟩
theorem OFd.below {w w' : World} {base m : Nat} {A : Option Addr} {n c : Nat} {fs : List Can.Fr} (h : OFd w base m A n c fs) (hb : Below w.heap.size w w') : OFd w' base m A n c fs := by
  obtain ⟨xs, h1, h2, h3, h4⟩ := h
  exact ⟨xs, h1.below hb, h2.imp fun _ _ hr => hr.below hb, h3, h4⟩
theorem OFd.none_ (w : World) (base m : Nat) : OFd w base m none 0 0 [] := ⟨[], OV.none_ _ _ _ _, Rows.nil, (fun i u q h => by simp at h), fun i j u v _ h => by simp at h⟩
theorem wpList_appfd {w : World} {ops : Array Oper} {rest : List Oper} {o : Oper} {a : Act} {Q : Exit → Act → World → Prop} (hgd : o.guard = none) (s x : Operand)
    (ho : o.op = .call { callee := .builtin .append, args := #[s, x], argTypes := #[22, 22] })
    {A : Option Addr} {n c : Nat} (hs : a.eval s = .slice A n c) {g : Nat} (hx : a.eval x = .slice (some ⟨g, 0, none⟩) 1 1) (hgw : g = w.heap.size)
    (base m : Nat) {l : List Can.Fr} (hown : OFd w base m A n c l) (f : Can.Fr) {A' : Option Addr} {k c' : Nat} (hf : OB w base A' k c' f.data) (hsep : ∀ q, (Value.slice A' k c').ownBlock = some q → m ≤ q)
    (hbytes : n + 1 ≤ 1000000) (hbase : base ≤ w.heap.size)
    (h : ∀ A1 c1 w1, OFd w1 base w1.heap.size A1 (n + 1) c1 (l ++ [f]) → Below base w w1 → w.grownBy w1 (Value.slice A n c).ownBlock → wpList Try.prog ops Q rest (a.put o.dst (.slice A1 (n + 1) c1)) w1) :
    wpList Try.prog ops Q (o :: rest) a (w.alloc (.cells #[.int .i64 f.id, .bool f.rem, .slice A' k c'] 29)) := by
  subst hgw
  obtain ⟨xs, h1, h2, h3, h4⟩ := hown
  have hnew := (OV.new (base := base) (e := 29) (size := 3) w [.int .i64 f.id, .bool f.rem, .slice A' k c'] 1 rfl (by omega) hbase).rv
  refine wpList_app etf hgd s x ho hs hx base (h1.alloc _) hnew (frame_oneCell f A' k c') (by omega) (by omega) (by simp; omega) fun A1 c1 w1 k1 k2 _ => ?_
  have hg : w.grownBy w1 (Value.slice A n c).ownBlock := World.grownBy.trans (World.grownBy_alloc w _ _) k2
  have hkeep : ∀ {A2 : Option Addr} {n2 c2 : Nat} {l2 : List UInt8}, OB w base A2 n2 c2 l2 → OB w1 base A2 n2 c2 l2 := fun h => h.kept hg (own_own_ne h1 h (by decide))
  have hxl : xs.length = n * 3 := h1.1
  have hat : ∀ i u, (xs ++ [.int .i64 f.id, .bool f.rem, .slice A' k c'])[i * 3 + 2]? = some u → (i < n ∧ xs[i * 3 + 2]? = some u) ∨ (i = n ∧ u = .slice A' k c') := fun i u hu => by
    rcases Nat.lt_or_ge (i * 3 + 2) xs.length with hi | hi
    · rw [List.getElem?_append_left hi] at hu
      exact .inl ⟨by omega, hu⟩
    · rw [List.getElem?_append_right hi] at hu
      have hj : i * 3 + 2 - xs.length < 3 := by have := (List.getElem?_eq_some_iff.1 hu).1; simpa using this
      have e : i = n := by omega
      subst e
      rw [hxl, show i * 3 + 2 - i * 3 = 2 by omega] at hu
      simp at hu
      exact .inr ⟨rfl, hu.symm⟩
  have hlt : ∀ q, (Value.slice A' k c').ownBlock = some q → q < w.heap.size := fun q hq => (hf.lt q hq).2
  have hold : ∀ i u q, xs[i * 3 + 2]? = some u → u.ownBlock = some q → q < w.heap.size := fun i u q hu hq => by
    have hi : i < l.length := by
      have h5 := (List.getElem?_eq_some_iff.1 hu).1
      have h6 := h2.1
      omega
    obtain ⟨A2, n2, c2, e, hb⟩ := h2.2 i _ (List.getElem?_eq_getElem hi)
    have e0 : ((xs.drop (i * 3)).take 3)[2]? = xs[i * 3 + 2]? := by rw [List.getElem?_take, if_pos (by omega), List.getElem?_drop]
    rw [e, hu] at e0
    simp at e0
    subst e0
    exact (hb.lt q hq).2
  have hsz : w.heap.size ≤ w1.heap.size := hg.size
  refine h A1 c1 w1 ⟨_, k1, Rows.append (h2.imp fun g cs ⟨A2, n2, c2, e, hr⟩ => ⟨A2, n2, c2, e, hkeep hr⟩) (Rows.one ⟨A', k, c', rfl, hkeep hf⟩ rfl), fun i u q hu hq => ?_, fun i j u v hij hu hv => ?_⟩ (grown_below hg h1.lt hbase) hg
  · rcases hat i u hu with ⟨_, hu⟩ | ⟨_, rfl⟩
    · have := hold i u q hu hq; omega
    · have := hlt q hq; omega
  · rcases hat i u hu with ⟨hi, hu⟩ | ⟨hi, rfl⟩
    · rcases hat j v hv with ⟨hj, hv⟩ | ⟨hj, rfl⟩
      · exact h4 i j u v hij hu hv
      · cases e : (Value.slice A' k c').ownBlock with
        | none => exact .inl rfl
        | some q =>
          right
          intro e2
          have := hsep q e
          have := h3 i u q hu e2.symm
          omega
    · rcases hat j v hv with ⟨hj, hv⟩ | ⟨hj, rfl⟩
      · omega
      · omega
/-- What Put answers, and leaves. -/
def putF (f : Can.Fr) (room : Int) (fs : List Can.Fr) (lost : Int) (sp : Bool) : Int × List Can.Fr × Int × Bool :=
  if Can.check f ≠ 0 then (Can.check f, fs, lost, sp) else if (fs.length : Int) = room then (6, fs, lost + 1, true) else (0, Can.insS f fs, lost, sp)
def putR (f : Can.Fr) (room : Int) (fs : List Can.Fr) (lost : Int) (sp : Bool) : Int × List Can.Fr × Int × Bool :=
  if Can.check f ≠ 0 then (Can.check f, fs, lost, sp) else if (fs.length : Int) = room then (6, fs, lost + 1, true) else (0, fs ++ [f], lost, sp)
theorem put_order (f : Can.Fr) (room : Int) (L : List Can.Fr) (lost : Int) (sp : Bool) : putF f room (Can.orderS L) lost sp = ((putR f room L lost sp).1, Can.orderS (putR f room L lost sp).2.1, (putR f room L lost sp).2.2.1, (putR f room L lost sp).2.2.2) := by
  unfold putF putR
  rw [Can.orderS_length _ L rfl]
  split
  · rfl
  · split
    · rfl
    · rw [Can.orderS_append _ L f rfl]
theorem putR_facts (f : Can.Fr) (room : Int) (L : List Can.Fr) (lost : Int) (sp : Bool) (k : Nat) (h1 : ∀ f ∈ L, f.data.length ≤ 8) (h2 : 0 ≤ lost) (h3 : lost ≤ k) (h4 : (L.length : Int) ≤ room) :
    (∀ g ∈ (putR f room L lost sp).2.1, g.data.length ≤ 8) ∧ 0 ≤ (putR f room L lost sp).2.2.1 ∧ (putR f room L lost sp).2.2.1 ≤ ((k + 1 : Nat) : Int) ∧ (((putR f room L lost sp).2.1.length : Nat) : Int) ≤ room := by
  unfold putR
  split
  · exact ⟨h1, h2, by simp only; omega, h4⟩
  · rename_i hc
    split
    · exact ⟨h1, by simp only; omega, by simp only; omega, h4⟩
    · refine ⟨fun g hg => ?_, h2, by simp only; omega, by simp only [List.length_append, List.length_singleton]; omega⟩
      rcases List.mem_append.1 hg with hg | hg
      · exact h1 g hg
      · rw [List.mem_singleton.1 hg]
        exact (Can.checkN_lt (Classical.not_not.1 hc)).2.2.1
section
variable {F : Nat → Prop} {g : Nat} {room lost : Int} {fs : List Can.Fr} {sp : Bool}
theorem Put_all {i : Int} {r : Bool} {A : Option Addr} {n c B : Nat} {l : List UInt8} (w : World) (hq : QR w F g room fs lost sp) (hr : 1 ≤ room) (hr2 : room ≤ 64) (h : RB w B A n c l) (hB : B ≤ w.heap.size) (hle : (fs.length : Int) ≤ room) (hl1 : 0 ≤ lost) (hl2 : lost ≤ 1000) :
    Calls Try.prog 9 #[.pointer (some ⟨g, 0, none⟩), .agg #[.int .i64 i, .bool r, .slice A n c]] w fun e w' => e = .returned (.int .i64 (putF ⟨i, r, l⟩ room fs lost sp).1) ∧
      QR w' (fun b => F b ∨ w.heap.size ≤ b) g room (putF ⟨i, r, l⟩ room fs lost sp).2.1 (putF ⟨i, r, l⟩ room fs lost sp).2.2.1 (putF ⟨i, r, l⟩ room fs lost sp).2.2.2 ∧ Mv (fun b => b = g) w w' := by
  unfold putF
  by_cases hc : Can.check ⟨i, r, l⟩ ≠ 0
  · rw [if_pos hc]
    exact (Put_bad w hq hr h hc).mono fun e w' ⟨he, hb⟩ => ⟨he, (hq.below hb).mono fun b _ h => .inl h, Mv.of_new hb _⟩
  · rw [if_neg hc]
    have hc := Classical.not_not.1 hc
    by_cases hf : (fs.length : Int) = room
    · rw [if_pos hf]
      exact (Put_full w hq hr h hc hf hl1 (by omega)).mono fun e w' ⟨he, q, m⟩ => ⟨he, q.mono fun b _ h => .inl h, m⟩
    · rw [if_neg hf]
      exact Put_in w hq hr hr2 h hB hc (by omega)
theorem RPut_all {i : Int} {r : Bool} {A : Option Addr} {n c B : Nat} {l : List UInt8} (w : World) (hq : RQ w F g room fs lost sp) (hr2 : room ≤ 64) (h : RB w B A n c l) (hB : B ≤ w.heap.size) (hle : (fs.length : Int) ≤ room) (hl1 : 0 ≤ lost) (hl2 : lost ≤ 1000) :
    Calls Try.prog 19 #[.pointer (some ⟨g, 0, none⟩), .agg #[.int .i64 i, .bool r, .slice A n c]] w fun e w' => e = .returned (.int .i64 (putR ⟨i, r, l⟩ room fs lost sp).1) ∧
      RQ w' (fun b => F b ∨ w.heap.size ≤ b) g room (putR ⟨i, r, l⟩ room fs lost sp).2.1 (putR ⟨i, r, l⟩ room fs lost sp).2.2.1 (putR ⟨i, r, l⟩ room fs lost sp).2.2.2 ∧ Mv F w w' := by
  have hF := hq.1
  unfold putR
  by_cases hc : Can.check ⟨i, r, l⟩ ≠ 0
  · rw [if_pos hc]
    exact (RPut_bad w h hc).mono fun e w' ⟨he, hb⟩ => ⟨he, (hq.below hb).mono fun b _ h => .inl h, Mv.of_new hb _⟩
  · rw [if_neg hc]
    have hc := Classical.not_not.1 hc
    by_cases hf : (fs.length : Int) = room
    · rw [if_pos hf]
      exact (RPut_full w hq h hc hf hl1 (by omega)).mono fun e w' ⟨he, q, m⟩ => ⟨he, q.mono fun b _ h => .inl h, m.mono fun b _ h => by subst h; exact hF⟩
    · rw [if_neg hf]
      exact RPut_in w hq hr2 h hB hc (by omega)
set_option maxRecDepth 100000 in
set_option maxHeartbeats 2000000 in
theorem ListD_any (w : World) (hq : QR w F g room fs lost sp) (hd : ∀ f ∈ fs, f.data.length ≤ 8) (hn : fs.length ≤ 1000) : Calls Try.prog 26 #[.pointer (some ⟨g, 0, none⟩)] w fun e w' => ∃ A c, e = .returned (.slice A fs.length c) ∧ OFd w' w.heap.size w'.heap.size A fs.length c fs ∧ Below w.heap.size w w' := by
  obtain ⟨hF, Aq, cq, hg, hfs⟩ := id hq
  have F0 := hg.four
  have hrf := hfs.rf
  have hfl := hrf.lt
  generalize hm : fs.length = m at *
  have HM := Lib.hid hm; clear hm
  go_enter Try.func26, Try.ntmps26
  go_wp2_with fail
  go_loopw [3, 13] (fun v i wr => ∃ (k : Nat) (A : Option Addr) (c : Nat), k ≤ m ∧ i = .int .i64 k ∧ v = .slice A k c ∧ OFd wr w.heap.size wr.heap.size A k c (fs.take k) ∧ Below w.heap.size w wr) (fun _ i _ => m - (intOf i).toNat)
  case atStart => exact ⟨0, none, 0, by omega, rfl, rfl, OFd.none_ _ _ _, Below.refl _ _⟩
  case round =>
    obtain ⟨k, A, c, hk, rfl, rfl, hown, hbel⟩ := hrel
    by_cases hlt : k < m
    · obtain ⟨b, o, A1, n1, c1, rfl, hbB, q0, q1, q2, hr⟩ := (hrf.below hbel).at_ hlt
      have hmem : fs.getD k Can.zero ∈ fs := by
        have hkl : k < fs.length := by rw [HM.out]; exact hlt
        rw [show fs.getD k Can.zero = fs[k] by simp [List.getD, hkl]]
        exact List.getElem_mem hkl
      have hdl := hd _ hmem
      have htk : fs.take (k + 1) = fs.take k ++ [fs.getD k Can.zero] := by
        have hkl : k < fs.length := by rw [HM.out]; exact hlt
        rw [List.take_succ_eq_append_getElem hkl]
        simp [List.getD, hkl]
      generalize fs.getD k Can.zero = f at *
      obtain ⟨fi, fr, fd⟩ := f
      dsimp only at *
      have HT := Lib.hid htk; clear htk
      obtain rfl : fd.length = n1 := hr.len
      have hz := hbel.size
      have hr1 := hr.alloc hz (.cells #[.int .i64 fi, .bool fr, .slice A1 fd.length c1] 29)
      go_wp2_with fail
      refine (own_any fi fr _ hr1 (by simp; omega) (by omega)).mono ?_
      rintro e w1 ⟨A2, c2, rfl, o2, b2⟩
      have b12 := below_step (alloc_one wr (.cells #[.int .i64 fi, .bool fr, .slice A1 fd.length c1] 29)) b2 (Nat.le_refl _)
      have d2 := below_step hbel b12 (Nat.le_refl _)
      have own2 := hown.below b12
      have o2' := o2.more (base' := w.heap.size) (by simp; omega)
      have hsep : ∀ q, (Value.slice A2 fd.length c2).ownBlock = some q → wr.heap.size ≤ q := fun q hq => by have := (o2.lt q hq).1; simp at this; omega
      go_wp2_with (at_builtin; refine wpList_appfd rfl (.tmp 17) (.tmp 20) rfl rfl rfl (by simp) w.heap.size wr.heap.size own2 ⟨fi, fr, fd⟩ o2' hsep (by omega) d2.size ?_; intro A3 c3 w3 o3 b3 _)
      go_roundw
      case rel => exact ⟨k + 1, A3, c3, by omega, by go_num, rfl, by rw [HT.out]; exact o3, d2.trans b3⟩
      case measure => simp [intOf] <;> omega
    · obtain rfl : k = m := by omega
      go_wp2_with fail
      go_ret
      refine ⟨A, c, rfl, ?_, hbel⟩
      rw [List.take_of_length_le (by rw [HM.out]; exact Nat.le_refl _)] at hown
      exact hown
end
end Go.Proofs.Ytmhcobhpdlpoeaa
