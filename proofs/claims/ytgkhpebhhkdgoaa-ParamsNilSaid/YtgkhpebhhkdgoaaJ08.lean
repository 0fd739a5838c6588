/-
  Texts joined: DicPut, DicRFind, DicNwM, EntName, EntRight.
  Conditions: none.
-/
import Derived.Test.YtgkhpebhhkdgoaaJ03
import Derived.Test.YtgkhpebhhkdgoaaJ04
import Derived.Test.YtgkhpebhhkdgoaaJ05
import Derived.Test.YtgkhpebhhkdgoaaJ06
import Derived.Test.YtgkhpebhhkdgoaaJ07
/-
  Walks: put, Poke of layer 15.
  Conditions: none.
-/
namespace Go.Proofs.Ytgkhpebhhkdgoaa
set_option linter.unusedVariables false
set_option linter.unusedSimpArgs false
open Go.RowKit
/-- A value that was poked, or not. -/
def PokeP {t : TypeId} (D : Dc.Dic) (x y : Int) (b : List UInt8) (w : World) (F : Nat → Prop) (g gv : Nat) (lA : Option Addr) (lc : Nat) (vA : Option Addr) (vc : Nat) (xs : List Value) (e : Ending) (w' : World) : Prop :=
  e = .returned (.int .u32 (Dc.mayS D.l true x y b)) ∧ Mv (fun q => q = gv) w w' ∧ ∃ vs', DRt t w' (fun q => F q ∨ (w.heap.size ≤ q ∧ q < w'.heap.size)) g gv lA lc vA vc xs vs' (Dc.pokeS D x y b)
theorem poke_no {t : TypeId} {D : Dc.Dic} {x y : Int} {b : List UInt8} {w w' : World} {F : Nat → Prop} {g gv lc vc : Nat} {lA vA : Option Addr} {xs vs : List Value} (h : DRt t w F g gv lA lc vA vc xs vs D) (hb : Below w.heap.size w w') {z : Int} (hz : z = Dc.mayS D.l true x y b) (hp : Dc.pokeS D x y b = D) :
    PokeP (t := t) D x y b w F g gv lA lc vA vc xs (.returned (.int .u32 z)) w' := by
  subst hz
  refine ⟨rfl, Mv.of_new hb _, vs, ?_⟩
  rw [hp]
  exact (h.below hb).mono fun _ _ hf => .inl hf
set_option maxRecDepth 100000 in
set_option maxHeartbeats 4000000 in
theorem dput_any {F : Nat → Prop} {w : World} {g gv lc vc : Nat} {la : Addr} {vA : Option Addr} {xs vs : List Value} {D : Dc.Dic} (x y : Int) {A' : Option Addr} {n' c' B : Nat} {b : List UInt8} (h : DRt 73 w F g gv (some la) lc vA vc xs vs D) (hb : RB w B A' n' c' b) (hB : B ≤ w.heap.size) (hn : n' < 140737488355328) : Calls Try.prog 36 #[.pointer (some ⟨g, 0, none⟩), .int .i64 x, .int .i64 y, .slice A' n' c', .bool true] w (PokeP (t := 73) D x y b w F g gv (some la) lc vA vc xs) := by
  have M := dmay_any true x y h hb hB
  have hz0 := mayP_snd D.l true x y b
  cases hf : Dc.findS D.l x y with
  | none =>
    have hp : Dc.pokeS D x y b = D := by unfold Dc.pokeS; rw [hf]
    have hv : (mayP D.l true x y b).2 ≠ 0 := by
      unfold mayP
      rw [hf]
      dsimp only
      split <;> decide
    generalize (mayP D.l true x y b).2 = z at *
    have ez : (z == 0) = false := beq_false_of_ne hv
    replace M := Lib.hid M
    have HP := Lib.hid hp; have HZ := Lib.hid hz0
    clear hp hz0 hv hf
    go_enter Try.func36, Try.ntmps36
    go_wp2_with fail
    refine (M.out).mono ?_
    rintro e w1 ⟨rfl, b1⟩
    go_wp2_with fail
    go_ret
    exact poke_no h b1 HZ.out HP.out
  | some k =>
    have hk := (Dc.find_some hf).2.1
    have hm : mayP D.l true x y b = ((k : Int), Ent.valS (D.l.getD k Dc.en0) b) := by unfold mayP; rw [hf]; simp
    rw [hm] at M hz0
    dsimp only at M hz0
    by_cases hv : Ent.valS (D.l.getD k Dc.en0) b = 0
    · have hp : Dc.pokeS D x y b = ⟨D.l, D.v.set k b⟩ := by unfold Dc.pokeS; rw [hf]; dsimp only; rw [if_pos hv]
      rw [hv] at M hz0
      replace M := Lib.hid M
      have HP := Lib.hid hp; have HZ := Lib.hid hz0
      clear hp hz0 hv hf hm
      obtain ⟨t0, t1⟩ := h.two
      obtain ⟨A, n, c, hA, hF, hg, hr, hcell, hfr⟩ := h.value hk
      subst hA
      have hcap : D.l.length ≤ vc ∧ vc ≤ 9223372036854775807 := ⟨h.own.rv.le, h.own.rv.cap⟩
      have HC := Lib.hid hcap
      have hgl := h.blk.lt
      have HM : Hid (∀ {w1 : World} {n c : Nat} {A : Option Addr}, Below w.heap.size w w1 → OB w1 w.heap.size A n c b → DRt 73 (w1.setCell ⟨gv, k, none⟩ (.slice A n c)) (fun q => F q ∨ (w.heap.size ≤ q ∧ q < w1.heap.size)) g gv (some la) lc (some ⟨gv, 0, none⟩) vc xs (vs.set k (.slice A n c)) ⟨D.l, D.v.set k b⟩) := Lib.hid fun h1 h2 => h.put hk h1 h2
      clear hcap hr h
      generalize hmm : D.l.length = m at *
      have HMM := Lib.hid hmm
      clear hmm
      go_enter Try.func36, Try.ntmps36
      go_wp2_with fail
      refine (M.out).mono ?_
      rintro e w1 ⟨rfl, b1⟩
      have OWN := Lib.hid (down_any w1.drew (hb.below (b1.drew.mono hB)) hn (Nat.le_trans hB b1.drew.size))
      have t1' : w1.cell? ⟨g, 1, none⟩ = _ := (b1.cell (p := ⟨g, 1, none⟩) hgl).trans t1
      have T1 := cell_regrown t1'
      have i0 : (0 : Int) ≤ (k : Int) := by omega
      have i1 : (k : Int) < (m : Int) := by omega
      clear t0 t1 t1'
      go_wp2_with fail
      refine region_laterL 8 (by kernel_rfl) ?_
      refine phase_laterL (by kernel_rfl) 3 (below_drew _) [0, 4, 5, 1, 2, 3] rfl (by kernel_rfl) ?_
      simp only [picks, nth]
      repeat (go_big_quiet_step (fail))
      refine wpQuiet_nil ?_
      refine phase_opL 6 2 rfl (by kernel_rfl) (by decide) ?_
      simp only [nth]
      go_wp2_with fail
      refine (OWN.out).mono ?_
      rintro e w3 ⟨A3, c3, rfl, o3, b3⟩
      have b3' : Below w1.heap.size w1 w3 := (below_drew w1).trans b3
      go_wp2_with fail
      refine behind_laterL b3' ?_
      refine phase_laterL (by kernel_rfl) 1 (Below.refl _ _) [7] rfl (by kernel_rfl) ?_
      simp only [picks, nth]
      repeat (go_big_quiet_step (fail))
      refine wpQuiet_nil ?_
      have d3 := below_step b1 b3' (Nat.le_refl _)
      have e3 := (d3.cell (p := ⟨gv, k, none⟩) hg).trans hcell
      have f3 := (d3.frozen (p := ⟨gv, k, none⟩) hg).trans hfr
      refine phase_last 0 rfl (by kernel_rfl) (by decide) (by kernel_rfl) ?_
      simp only [nth]
      go_wp2_with fail
      refine behind_last ?_
      go_wp2_with fail
      go_ret
      have o3' : OB w3 w.heap.size A3 n' c3 b := o3.more b1.drew.size
      have hput := HM.out (w1 := w3) d3 o3'
      have M2 : Mv (fun q => q = gv) w (w3.setCell ⟨gv, k, none⟩ (.slice A3 n' c3)) := (Mv.of_new d3 _).trans (Mv.setCell w3 ⟨gv, k, none⟩ (.slice A3 n' c3)) fun b _ h => h
      refine ⟨by rw [← HZ.out]; rfl, M2, vs.set k (.slice A3 n' c3), ?_⟩
      rw [HP.out]
      exact hput.mono fun q hq hf => by
        rcases hf with hf | hf
        · exact .inl hf
        · exact .inr ⟨hf.1, by simpa [World.setCell] using hf.2⟩
    · have hp : Dc.pokeS D x y b = D := by unfold Dc.pokeS; rw [hf]; dsimp only; rw [if_neg hv]
      generalize Ent.valS (D.l.getD k Dc.en0) b = z at *
      have ez : (z == 0) = false := beq_false_of_ne hv
      replace M := Lib.hid M
      have HP := Lib.hid hp; have HZ := Lib.hid hz0
      clear hp hz0 hv hf hm
      go_enter Try.func36, Try.ntmps36
      go_wp2_with fail
      refine (M.out).mono ?_
      rintro e w1 ⟨rfl, b1⟩
      go_wp2_with fail
      go_ret
      exact poke_no h b1 HZ.out HP.out
set_option maxRecDepth 100000 in
set_option maxHeartbeats 4000000 in
theorem dPoke_any {F : Nat → Prop} {w : World} {g gv lc vc : Nat} {la : Addr} {vA : Option Addr} {xs vs : List Value} {D : Dc.Dic} (x y : Int) {A' : Option Addr} {n' c' B : Nat} {b : List UInt8} (h : DRt 73 w F g gv (some la) lc vA vc xs vs D) (hb : RB w B A' n' c' b) (hB : B ≤ w.heap.size) (hn : n' < 140737488355328) : Calls Try.prog 22 #[.pointer (some ⟨g, 0, none⟩), .int .i64 x, .int .i64 y, .slice A' n' c'] w (PokeP (t := 73) D x y b w F g gv (some la) lc vA vc xs) := by
  have M := Lib.hid (dput_any x y h hb hB hn)
  clear h hb
  go_enter Try.func22, Try.ntmps22
  go_wp2_with fail
  refine (M.out).mono ?_
  rintro e w1 ⟨rfl, h1, vs', h2⟩
  go_wp2_with fail
  go_ret
  exact ⟨rfl, h1, vs', h2⟩
end Go.Proofs.Ytgkhpebhhkdgoaa
/-
  Not of this seat.
  Conditions: none.
-/
/-
  A dictionary that is being made; entries that are read.
  Conditions: none.
-/
namespace Go.Proofs.Ytgkhpebhhkdgoaa
set_option linter.unusedVariables false
set_option linter.unusedSimpArgs false
open Go.RowKit
/-- An entry's cells, its bytes the call's own. -/
def EnB (w : World) (base : Nat) (e : Ent.En) (cs : List Value) : Prop := ∃ A n c, cs = enL e A n c ∧ OB w base A n c e.dflt
def ByB (w : World) (base : Nat) (b : List UInt8) (cs : List Value) : Prop := ∃ A n c, cs = [.slice A n c] ∧ OB w base A n c b
section
variable {w w' : World} {base base' g i e size n c : Nat} {t : TypeId} {A : Option Addr} {l : List UInt8} {xs : List Value} {ds : Array Value} {u : Value}
/-- Bytes of the call's own are kept where rows of another type are written. -/
theorem OB.beside (h : OB w base A n c l) {A' : Option Addr} {n' c' : Nat} {xs' : List Value} (h' : OV w base' e size A' n' c' xs') (hne : e ≠ 5) (hg : w.grownBy w' (Value.slice A' n' c').ownBlock) : OB w' base A n c l := OB.kept h hg (own_own_ne h' h hne)
theorem OB.off (h : OB w base A n c l) (hb : Blk w g t ds) (ht : t ≠ 5) : OB (w.setCell ⟨g, i, none⟩ u) base A n c l :=
  OB.kept h (row := some g) (grown_setCell (World.grownBy.refl _ _) (.inl rfl) u) (.inr (own_blk_ne h hb (Ne.symm ht)))
theorem OV.off (h : OV w base e size A n c xs) (hb : Blk w g t ds) (ht : t ≠ e) : OV (w.setCell ⟨g, i, none⟩ u) base e size A n c xs :=
  OV.kept h (row := some g) (grown_setCell (World.grownBy.refl _ _) (.inl rfl) u) (.inr (own_blk_ne h hb (Ne.symm ht)))
theorem OV.beside (h : OV w base e size A n c xs) {e' size' : Nat} {A' : Option Addr} {n' c' : Nat} {xs' : List Value} (h' : OV w base' e' size' A' n' c' xs') (hne : e' ≠ e) (hg : w.grownBy w' (Value.slice A' n' c').ownBlock) : OV w' base e size A n c xs := OV.kept h hg (own_own_ne h' h hne)
theorem Blk.beside (h : Blk w g t ds) {A' : Option Addr} {n' c' : Nat} {xs' : List Value} (h' : OV w base' e size A' n' c' xs') (hne : e ≠ t) (hg : w.grownBy w' (Value.slice A' n' c').ownBlock) : Blk w' g t ds := h.grown hg (fun q => own_blk_ne h' h hne q.symm)
end
section
variable {w w' : World} {base g i size n c : Nat} {t e' : TypeId} {e : Ent.En} {b : List UInt8} {cs xs : List Value} {A : Option Addr} {ds : Array Value} {u : Value}
theorem EnB.below (h : EnB w base e cs) (hb : Below w.heap.size w w') : EnB w' base e cs := by obtain ⟨A, n, c, h1, h2⟩ := h; exact ⟨A, n, c, h1, h2.below hb⟩
theorem ByB.below (h : ByB w base b cs) (hb : Below w.heap.size w w') : ByB w' base b cs := by obtain ⟨A, n, c, h1, h2⟩ := h; exact ⟨A, n, c, h1, h2.below hb⟩
theorem EnB.beside {base' : Nat} (h : EnB w base e cs) (h' : OV w base' e' size A n c xs) (hne : e' ≠ 5) (hg : w.grownBy w' (Value.slice A n c).ownBlock) : EnB w' base e cs := by obtain ⟨A1, n1, c1, h1, h2⟩ := h; exact ⟨A1, n1, c1, h1, h2.beside h' hne hg⟩
theorem ByB.beside {base' : Nat} (h : ByB w base b cs) (h' : OV w base' e' size A n c xs) (hne : e' ≠ 5) (hg : w.grownBy w' (Value.slice A n c).ownBlock) : ByB w' base b cs := by obtain ⟨A1, n1, c1, h1, h2⟩ := h; exact ⟨A1, n1, c1, h1, h2.beside h' hne hg⟩
theorem EnB.off (h : EnB w base e cs) (hb : Blk w g t ds) (ht : t ≠ 5) : EnB (w.setCell ⟨g, i, none⟩ u) base e cs := by obtain ⟨A1, n1, c1, h1, h2⟩ := h; exact ⟨A1, n1, c1, h1, h2.off hb ht⟩
theorem ByB.off (h : ByB w base b cs) (hb : Blk w g t ds) (ht : t ≠ 5) : ByB (w.setCell ⟨g, i, none⟩ u) base b cs := by obtain ⟨A1, n1, c1, h1, h2⟩ := h; exact ⟨A1, n1, c1, h1, h2.off hb ht⟩
end
/-- A dictionary that is being made, at block g. -/
structure NwM (t : TypeId) (w : World) (base g : Nat) (lA : Option Addr) (kl lc : Nat) (vA : Option Addr) (kv vc : Nat) (es : List Ent.En) (bs : List (List UInt8)) : Prop where
  gb : base ≤ g
  blk : Blk w g t #[.slice lA kl lc, .slice vA kv vc]
  row : OS (EnB w base) w base 46 11 lA kl lc es
  vrow : OS (ByB w base) w base 22 1 vA kv vc bs
section
variable {t : TypeId} {w w' : World} {base g kl lc kv vc : Nat} {lA vA : Option Addr} {es : List Ent.En} {bs : List (List UInt8)}
theorem NwM.below (h : NwM t w base g lA kl lc vA kv vc es bs) (hb : Below w.heap.size w w') : NwM t w' base g lA kl lc vA kv vc es bs :=
  ⟨h.gb, h.blk.later hb, OS.below h.row hb fun _ _ k => k.below hb, OS.below h.vrow hb fun _ _ k => k.below hb⟩
/-- Behind an append to its entries, and the store of the new slice. -/
theorem NwM.addl (h : NwM t w base g lA kl lc vA kv vc es bs) (ht : t ≠ 5) (hte : t ≠ 46) (htv : t ≠ 22) {A1 : Option Addr} {k1 c1 : Nat} {es' : List Ent.En} (hrow : OS (EnB w' base) w' base 46 11 A1 k1 c1 es') (hg : w.grownBy w' (Value.slice lA kl lc).ownBlock) :
    NwM t (w'.setCell ⟨g, 0, none⟩ (.slice A1 k1 c1)) base g A1 k1 c1 vA kv vc es' bs := by
  have hr := h.row
  obtain ⟨xs0, r0, _⟩ := hr
  have hb : Blk w' g t #[.slice lA kl lc, .slice vA kv vc] := h.blk.beside r0 (Ne.symm hte) hg
  refine ⟨h.gb, hb.set_ 0 _, ?_, ?_⟩
  · obtain ⟨ys, o1, o2⟩ := hrow
    exact ⟨ys, o1.off hb hte, o2.imp fun _ _ k => k.off hb ht⟩
  · obtain ⟨ys, o1, o2⟩ := h.vrow
    have o1' := OV.beside o1 r0 (by decide) hg
    exact ⟨ys, o1'.off hb htv, o2.imp fun _ _ k => (k.beside r0 (by decide) hg).off hb ht⟩
theorem NwM.addv (h : NwM t w base g lA kl lc vA kv vc es bs) (ht : t ≠ 5) (hte : t ≠ 46) (htv : t ≠ 22) {A1 : Option Addr} {k1 c1 : Nat} {bs' : List (List UInt8)} (hrow : OS (ByB w' base) w' base 22 1 A1 k1 c1 bs') (hg : w.grownBy w' (Value.slice vA kv vc).ownBlock) :
    NwM t (w'.setCell ⟨g, 1, none⟩ (.slice A1 k1 c1)) base g lA kl lc A1 k1 c1 es bs' := by
  have hr := h.vrow
  obtain ⟨xs0, r0, _⟩ := hr
  have hb : Blk w' g t #[.slice lA kl lc, .slice vA kv vc] := h.blk.beside r0 (Ne.symm htv) hg
  refine ⟨h.gb, hb.set_ 1 _, ?_, ?_⟩
  · obtain ⟨ys, o1, o2⟩ := h.row
    have o1' := OV.beside o1 r0 (by decide) hg
    exact ⟨ys, o1'.off hb hte, o2.imp fun _ _ k => (k.beside r0 (by decide) hg).off hb ht⟩
  · obtain ⟨ys, o1, o2⟩ := hrow
    exact ⟨ys, o1.off hb htv, o2.imp fun _ _ k => k.off hb ht⟩
/-- Made. -/
theorem NwM.made {n : Nat} (h : NwM t w base g lA n lc vA n vc es bs) (ht : t ≠ 5) (hte : t ≠ 46) (htv : t ≠ 22) (hl : es.length = n) (hbs : bs.length = n) (ho : Dc.Ord es) (h96 : n ≤ 96) (hr : ∀ e ∈ es, Ent.rightS e = 0) :
    ∃ gv xs vs, DRt t w (fun q => base ≤ q) g gv lA lc vA vc xs vs ⟨es, bs⟩ := by
  obtain ⟨xs, r1, r2⟩ := h.row
  obtain ⟨vs, v1, v2⟩ := h.vrow
  subst hl
  have hgl := h.blk.lt
  have hgv : ∃ gv, gv ≠ g ∧ (∀ k, (Value.slice vA es.length vc).ownBlock = some k → k = gv) ∧ ∀ {e' size' n' c' : Nat} {A' : Option Addr} {zs : List Value}, OV w base e' size' A' n' c' zs → 22 ≠ e' → ∀ k, (Value.slice A' n' c').ownBlock = some k → k ≠ gv := by
    cases hk : (Value.slice vA es.length vc).ownBlock with
    | none => exact ⟨w.heap.size, by omega, (fun k e => by cases e), (fun ho _ k hk => by have := (ho.lt k hk).2; omega)⟩
    | some q =>
      refine ⟨q, fun e => own_blk_ne v1 h.blk (Ne.symm htv) (by rw [hk, e]), (fun k e => by injection e with e; exact e.symm), fun ho hne k hk2 e => ?_⟩
      rcases own_own_ne v1 ho hne with h5 | h5
      · rw [h5] at hk2; cases hk2
      · exact h5 (by rw [hk2, hk, e])
  obtain ⟨gv, g1, g2, g3⟩ := hgv
  have bytes : ∀ {A : Option Addr} {n c : Nat} {b : List UInt8}, OB w base A n c b → RBp w (Fx (fun q => base ≤ q) g gv) A n c b := fun ho => ho.rbp fun k hk =>
    ⟨(ho.lt k hk).1, fun e => own_blk_ne ho h.blk (Ne.symm ht) (by rw [hk, e]), g3 (A' := _) (zs := _) ho (by decide) k hk⟩
  refine ⟨gv, xs, vs, { fg := h.gb, ne := Ne.symm g1, blk := h.blk, row := r1.rvp fun k hk => ⟨(r1.lt k hk).1, fun e => own_blk_ne r1 h.blk (Ne.symm hte) (by rw [hk, e]), g3 r1 (by decide) k hk⟩, rows := r2.imp fun e cs he => ?_, own := v1.more (Nat.zero_le _), at_ := fun k hk => ?_, vals := v2.imp fun b cs hb => ?_, len := hbs, ord := ho, few := h96, right := hr }⟩
  · obtain ⟨A, n, c, e1, e2⟩ := he
    exact ⟨A, n, c, e1, bytes e2⟩
  · have := g2 k hk
    exact ⟨this, by rw [← this]; exact (v1.lt k hk).1⟩
  · obtain ⟨A, n, c, e1, e2⟩ := hb
    exact ⟨A, n, c, e1, bytes e2⟩
end
/-- An entry's cells, as they are read. -/
def EnC (w : World) (B : Nat) (e : Ent.En) (cs : List Value) : Prop := ∃ A n c, cs = enL e A n c ∧ RB w B A n c e.dflt
/-- Entries that are read; their bytes below B'. -/
def REn (w : World) (B B' : Nat) (A : Option Addr) (n c : Nat) (es : List Ent.En) : Prop := RS (EnC w B') w B 11 A n c es
section
variable {w w' : World} {B B' n c : Nat} {A : Option Addr} {es : List Ent.En}
theorem REn.len (h : REn w B B' A n c es) : es.length = n := RS.len h (by decide)
theorem REn.lt (h : REn w B B' A n c es) : n ≤ 9223372036854775807 := RS.lt h
theorem REn.below (h : REn w B B' A n c es) (hb : Below B w w') (hB : B' ≤ B) : REn w' B B' A n c es := RS.below h hb fun _ _ k => by
  obtain ⟨A, n, c, h1, h2⟩ := k
  exact ⟨A, n, c, h1, h2.below (hb.mono hB)⟩
theorem REn.at_ (h : REn w B B' A n c es) {i : Nat} (hi : i < n) : ∃ b o A1 n1 c1, A = some ⟨b, o, none⟩ ∧ b < B ∧ RB w B' A1 n1 c1 (es.getD i Dc.en0).dflt ∧
    ∀ j u, (enL (es.getD i Dc.en0) A1 n1 c1)[j]? = some u → w.cell? ⟨b, o + i * 11 + j, none⟩ = some u := by
  have hl := h.len
  have hf : es[i]? = some (es.getD i Dc.en0) := by simp [List.getD, List.getElem?_eq_getElem (show i < es.length by omega)]
  obtain ⟨b, o, cs, rfl, hb, ⟨A1, n1, c1, rfl, hr⟩, hc⟩ := RS.at_ h (by decide) hf
  exact ⟨b, o, A1, n1, c1, rfl, hb, hr, fun j u hu => hc j u (by have := (List.getElem?_eq_some_iff.1 hu).1; simpa [enL] using this) hu⟩
end
theorem en_oneCell (e : Ent.En) (A : Option Addr) (n c : Nat) : ∀ u ∈ enL e A n c, u.oneCell' = true := by
  intro u hu
  simp only [enL, List.mem_cons, List.not_mem_nil, or_false] at hu
  rcases hu with rfl | rfl | rfl | rfl | rfl | rfl | rfl | rfl | rfl | rfl | rfl <;> rfl
theorem newF_step {l : List Ent.En} {k n : Nat} (h : k < n) : Dc.newF l (n - k) k = if Ent.rightS (l.getD k Dc.en0) ≠ 0 then (Ent.rightS (l.getD k Dc.en0), k) else if 0 < k ∧ Ent.befB (l.getD (k - 1) Dc.en0) (l.getD k Dc.en0) = false then (16, k) else Dc.newF l (n - (k + 1)) (k + 1) := by
  obtain ⟨m, hm⟩ : ∃ m, n - k = m + 1 := ⟨n - k - 1, by omega⟩
  rw [hm, Dc.newF, show n - (k + 1) = m by omega]
/-- What New hands back: a dictionary, or why there is none. -/
def NewPost (t : TypeId) (es : List Ent.En) (w : World) (e : Ending) (w' : World) : Prop :=
  ((Dc.newS es).1 = 0 ∧ Below w.heap.size w w' ∧ ∃ (g gv lc vc : Nat) (la : Addr) (vA : Option Addr) (xs vs : List Value), e = .returned (.tuple #[.pointer (some ⟨g, 0, none⟩), .int .i64 0, .int .i64 0]) ∧ DRt t w' (fun q => w.heap.size ≤ q) g gv (some la) lc vA vc xs vs ⟨es, es.map (·.dflt)⟩) ∨
  ((Dc.newS es).1 ≠ 0 ∧ Below w.heap.size w w' ∧ e = .returned (.tuple #[.pointer none, .int .i64 (Dc.newS es).1, .int .i64 ((Dc.newS es).2 : Int)]))
theorem new_no {t : TypeId} {es : List Ent.En} {w w' : World} {x y : Int} {q : Nat} (h : Dc.newS es = (x, q)) (hx : x ≠ 0) (hy : y = (q : Int)) (hb : Below w.heap.size w w') : NewPost t es w (.returned (.tuple #[.pointer none, .int .i64 x, .int .i64 y])) w' := by
  subst hy
  exact .inr ⟨by rw [h]; exact hx, hb, by rw [h]⟩
end Go.Proofs.Ytgkhpebhhkdgoaa
/-
  Walks: names of entries, program and reference.
  Conditions: none.
-/
namespace Go.Proofs.Ytgkhpebhhkdgoaa
set_option linter.unusedVariables false
set_option linter.unusedSimpArgs false
open Go.RowKit
theorem getD_T (s : List UInt8) (k : Nat) (h : k < s.length) : s.drop k = s.getD k 0 :: s.drop (k + 1) := by
  rw [List.drop_eq_getElem_cons h, List.getD_eq_getElem?_getD, List.getElem?_eq_getElem h]
  rfl
theorem ent_byte_ne {c d : UInt8} {k : Int} (h : c ≠ d) (hk : (d.toNat : Int) = k) : ((c.toNat : Int) == k) = false := by
  rw [beq_eq_false_iff_ne]
  intro e
  exact h (UInt8.toNat_inj.1 (by omega))
theorem all_step {p : UInt8 → Bool} {s : List UInt8} {k : Nat} (h : k < s.length) : (s.drop k).all p = (p (s.getD k 0) && (s.drop (k + 1)).all p) := by rw [getD_T s k h, List.all_cons]
theorem eletter_any (c : UInt8) (w : World) : Calls Try.prog 64 #[.int .u8 (c.toNat : Int)] w fun e w' => e = .returned (.bool (Ent.low c)) ∧ w = w' := by
  have hc := byte_lt c
  by_cases h1 : 97 ≤ c.toNat
  all_goals
    go_enter Try.func64, Try.ntmps64
    go_wp2_with fail
    go_ret
    exact ⟨ret_bool (by rw [Bool.eq_iff_iff]; simp [Ent.low] <;> omega), rfl⟩
theorem einner_any (c : UInt8) (w : World) : Calls Try.prog 65 #[.int .u8 (c.toNat : Int)] w fun e w' => e = .returned (.bool (Ent.inner c)) ∧ w = w' := by
  have hc := byte_lt c
  have L := eletter_any c w
  generalize hl : Ent.low c = l at *
  replace L := Lib.hid L
  have HL := Lib.hid hl; clear hl
  cases l with
  | true =>
    go_enter Try.func65, Try.ntmps65
    go_wp2_with fail
    refine (L.out).mono ?_
    rintro e _ ⟨rfl, rfl⟩
    go_wp2_with fail
    go_ret
    exact ⟨ret_bool (by unfold Ent.inner; rw [HL.out]; rfl), rfl⟩
  | false =>
    by_cases h1 : 48 ≤ c.toNat
    · by_cases h2 : c.toNat ≤ 57
      · go_enter Try.func65, Try.ntmps65
        go_wp2_with fail
        refine (L.out).mono ?_
        rintro e _ ⟨rfl, rfl⟩
        go_wp2_with fail
        go_ret
        exact ⟨ret_bool (by unfold Ent.inner Ty.isD; rw [decide_eq_true ⟨h1, h2⟩]; simp), rfl⟩
      · by_cases h3 : c = 95
        · subst h3
          go_enter Try.func65, Try.ntmps65
          go_wp2_with fail
          refine (L.out).mono ?_
          rintro e _ ⟨rfl, rfl⟩
          go_wp2_with fail
          go_ret
          exact ⟨rfl, rfl⟩
        · have e3 := ent_byte_ne (k := 95) h3 rfl
          go_enter Try.func65, Try.ntmps65
          go_wp2_with fail
          refine (L.out).mono ?_
          rintro e _ ⟨rfl, rfl⟩
          go_wp2_with fail
          go_ret
          exact ⟨ret_bool (by unfold Ent.inner; rw [HL.out]; unfold Ty.isD; rw [decide_eq_false (by omega : ¬(48 ≤ c.toNat ∧ c.toNat ≤ 57)), beq_false_of_ne h3]; simp <;> omega), rfl⟩
    · have h3 : c ≠ 95 := by rintro rfl; exact h1 (by decide)
      have e3 := ent_byte_ne (k := 95) h3 rfl
      go_enter Try.func65, Try.ntmps65
      go_wp2_with fail
      refine (L.out).mono ?_
      rintro e _ ⟨rfl, rfl⟩
      go_wp2_with fail
      go_ret
      exact ⟨ret_bool (by unfold Ent.inner; rw [HL.out]; unfold Ty.isD; rw [decide_eq_false (by omega : ¬(48 ≤ c.toNat ∧ c.toNat ≤ 57)), beq_false_of_ne h3]; simp <;> omega), rfl⟩
theorem name_empty : Ent.nameB [] = false := rfl
theorem name_long {s : List UInt8} (h : 16 < s.length) : Ent.nameB s = false := by unfold Ent.nameB; rw [decide_eq_false (by omega)]; rfl
theorem name_first {c : UInt8} {r : List UInt8} (h : Ent.low c = false) : Ent.nameB (c :: r) = false := by unfold Ent.nameB; simp [h]
theorem name_rest {c : UInt8} {r : List UInt8} (h : Ent.low c = true) (hl : (c :: r).length ≤ 16) : Ent.nameB (c :: r) = (c :: r).all Ent.inner := by unfold Ent.nameB; rw [decide_eq_true ⟨by simp, hl⟩]; simp [h]
set_option maxRecDepth 100000 in
set_option maxHeartbeats 4000000 in
theorem Name_any (s : List UInt8) (w : World) (hs : s.length ≤ 9223372036854775807) : Calls Try.prog 45 #[.string (T s)] w fun e w' => e = .returned (.bool (Ent.nameB s)) ∧ w = w' := by
  have hT := T_size s
  cases s with
  | nil =>
    go_enter Try.func45, Try.ntmps45
    have h0 : T [] = (⟨#[]⟩ : ByteArray) := rfl
    go_wp2_with fail
    go_ret
    exact ⟨rfl, rfl⟩
  | cons c r =>
    have htl := T_toList (c :: r)
    have hne : ((c :: r : List UInt8) == []) = false := rfl
    by_cases hl : 16 < (c :: r).length
    · have HV := Lib.hid (name_long hl)
      generalize (c :: r : List UInt8) = s at *
      go_enter Try.func45, Try.ntmps45
      go_wp2_with fail
      go_ret
      exact ⟨by rw [HV.out]; rfl, rfl⟩
    have hat0 := fun w => run_T_at (c :: r) .i64 0 0 rfl (by simp) w
    rw [show (c :: r).getD 0 0 = c from rfl] at hat0
    have L := fun w => eletter_any c w
    cases hlo : Ent.low c with
    | false =>
      rw [hlo] at L
      have HV := Lib.hid (name_first (r := r) hlo)
      replace L := Lib.hid L
      clear hlo
      generalize (c :: r : List UInt8) = s at *
      go_enter Try.func45, Try.ntmps45
      go_wp2_with fail
      refine (L.out _).mono ?_
      rintro e _ ⟨rfl, rfl⟩
      go_wp2_with fail
      go_ret
      exact ⟨by rw [HV.out]; rfl, rfl⟩
    | true =>
      rw [hlo] at L
      have HV : Hid (Ent.nameB (c :: r) = ((c :: r).drop 0).all Ent.inner) := Lib.hid (by rw [List.drop_zero]; exact name_rest hlo (by omega))
      replace L := Lib.hid L
      clear hlo
      have hpos : 0 < (c :: r).length := by simp
      generalize (c :: r : List UInt8) = s at *
      generalize Ent.nameB s = res at *
      go_enter Try.func45, Try.ntmps45
      go_wp2_with fail
      refine (L.out _).mono ?_
      rintro e w ⟨rfl, rfl⟩
      go_wp2_with fail
      go_loop [2, 19] (fun x v => x = .bool false ∧ ∃ k : Nat, k ≤ s.length ∧ v = .int .i64 k ∧ Hid (res = (s.drop k).all Ent.inner)) (fun _ v => s.length - (intOf v).toNat)
      case atStart => exact ⟨rfl, 0, by omega, rfl, HV⟩
      case round =>
        obtain ⟨rfl, k, hk, rfl, hq⟩ := hrel
        by_cases hlt : k < s.length
        · have hat := fun w => run_T_at s .i64 k k rfl hlt w
          have hst := hq.out
          rw [all_step hlt] at hst
          have I := fun w => einner_any (s.getD k 0) w
          clear hq
          generalize s.getD k 0 = d at *
          cases hi : Ent.inner d with
          | true =>
            rw [hi] at I hst
            rw [Bool.true_and] at hst
            have HQ := Lib.hid hst
            replace I := Lib.hid I
            clear hst hi
            go_wp2_with fail
            refine (I.out _).mono ?_
            rintro e w ⟨rfl, rfl⟩
            go_wp2_with fail
            go_round
            case rel => exact ⟨rfl, k + 1, by omega, by go_num, HQ⟩
            case measure => simp [intOf] <;> omega
          | false =>
            rw [hi] at I hst
            rw [Bool.false_and] at hst
            have HQ := Lib.hid hst
            replace I := Lib.hid I
            clear hst hi
            go_wp2_with fail
            refine (I.out _).mono ?_
            rintro e w ⟨rfl, rfl⟩
            go_wp2_with fail
            go_ret
            exact ⟨by rw [HQ.out]; rfl, rfl⟩
        · have HQ : Hid (res = true) := Lib.hid (by rw [hq.out, List.drop_of_length_le (by omega)]; rfl)
          clear hq
          obtain rfl : k = s.length := by omega
          go_wp2_with fail
          go_ret
          exact ⟨by rw [HQ.out]; rfl, rfl⟩
end Go.Proofs.Ytgkhpebhhkdgoaa
/-
  Walk: Right of layer 14.
  Conditions: none.
-/
namespace Go.Proofs.Ytgkhpebhhkdgoaa
set_option linter.unusedVariables false
set_option linter.unusedSimpArgs false
open Go.RowKit
theorem lim_open {p : Int × Int × Bool} {w : World} {e : Ending} {w' : World} (h : LimPost p w e w') : e = .returned (.tuple #[.int .i64 p.1, .int .i64 p.2.1, .bool p.2.2]) ∧ Below w.heap.size w w' := h
set_option maxRecDepth 100000 in
set_option maxHeartbeats 4000000 in
theorem Right_any (e : Ent.En) {A : Option Addr} {n c B : Nat} (w : World) (hb : RB w B A n c e.dflt) (hB : B ≤ w.heap.size) (hn : e.name.length ≤ 9223372036854775807) : Calls Try.prog 24 #[enV e A n c] w fun x w' => x = .returned (.int .i64 (Ent.rightS e)) ∧ Below w.heap.size w w' := by
  obtain ⟨ix, sb, nm, ty, ac, mp, st, mx, lo, hi, df⟩ := e
  dsimp only at hb hn
  have L := fun w => Limits_any ty w
  have NM := fun w => Name_any nm w hn
  have KN := fun w => TKnown_any ty w
  have FL := fun w => flags_any ⟨ix, sb, nm, ty, ac, mp, st, mx, lo, hi, df⟩ A n c w
  have NB := fun w => numbered_any ⟨ix, sb, nm, ty, ac, mp, st, mx, lo, hi, df⟩ A n c (Ty.limS ty).1 (Ty.limS ty).2.1 w
  have SZ := fun w => sized_any ⟨ix, sb, nm, ty, ac, mp, st, mx, lo, hi, df⟩ A n c w
  have VL := fun (w1 : World) (h : Below w.heap.size w w1) => EValue_any ⟨ix, sb, nm, ty, ac, mp, st, mx, lo, hi, df⟩ A n c w1 (hb.below (h.mono hB)) (Nat.le_trans hB h.size)
  unfold knownB at KN
  unfold LimPost at L
  unfold enV at FL NB SZ VL
  dsimp only at FL NB SZ VL
  unfold enV
  dsimp only
  have hR : Ent.rightS ⟨ix, sb, nm, ty, ac, mp, st, mx, lo, hi, df⟩ = if ix < 1 ∨ 65535 < ix ∨ sb < 0 ∨ 255 < sb then 9 else if Ent.nameB nm = false then 14 else if (Ty.kd ty).name = [] then 15 else if Ent.flagsB ⟨ix, sb, nm, ty, ac, mp, st, mx, lo, hi, df⟩ = false then 1 else if Ent.limB ⟨ix, sb, nm, ty, ac, mp, st, mx, lo, hi, df⟩ = false then 1 else if Ent.valS ⟨ix, sb, nm, ty, ac, mp, st, mx, lo, hi, df⟩ df ≠ 0 then 4 else 0 := rfl
  have hLB : Ent.limB ⟨ix, sb, nm, ty, ac, mp, st, mx, lo, hi, df⟩ = if (Ty.limS ty).2.2 = true then Ent.numberedB ⟨ix, sb, nm, ty, ac, mp, st, mx, lo, hi, df⟩ (Ty.limS ty).1 (Ty.limS ty).2.1 else Ent.sizedB ⟨ix, sb, nm, ty, ac, mp, st, mx, lo, hi, df⟩ := rfl
  rw [hLB] at hR
  generalize Ent.rightS ⟨ix, sb, nm, ty, ac, mp, st, mx, lo, hi, df⟩ = res at *
  generalize Ent.flagsB ⟨ix, sb, nm, ty, ac, mp, st, mx, lo, hi, df⟩ = fb at *
  generalize Ent.numberedB ⟨ix, sb, nm, ty, ac, mp, st, mx, lo, hi, df⟩ (Ty.limS ty).1 (Ty.limS ty).2.1 = nb at *
  generalize Ent.sizedB ⟨ix, sb, nm, ty, ac, mp, st, mx, lo, hi, df⟩ = sz at *
  generalize Ent.valS ⟨ix, sb, nm, ty, ac, mp, st, mx, lo, hi, df⟩ df = vl at *
  generalize Ent.nameB nm = nmb at *
  generalize (Ty.limS ty).1 = llo at *
  generalize (Ty.limS ty).2.1 = lhi at *
  generalize (Ty.limS ty).2.2 = num at *
  clear hLB hb hn
  by_cases r1 : ix < 1
  · rw [if_pos (by omega)] at hR
    have HV := Lib.hid hR
    replace L := Lib.hid L; replace NM := Lib.hid NM; replace KN := Lib.hid KN; replace FL := Lib.hid FL; replace NB := Lib.hid NB; replace SZ := Lib.hid SZ; replace VL := Lib.hid VL
    clear hR
    go_enter Try.func24, Try.ntmps24
    go_wp2_with fail
    refine (L.out _).mono ?_
    rintro x w1 ⟨rfl, b1⟩
    have K1 := Blk.made b1
    have d1 := below_step (alloc_one _ _) b1 (Nat.le_refl _)
    have F1 := K1.eleven
    go_wp2_with fail
    go_ret
    exact ⟨by rw [HV.out]; rfl, d1⟩
  by_cases r2 : 65535 < ix
  · rw [if_pos (by omega)] at hR
    have HV := Lib.hid hR
    replace L := Lib.hid L; replace NM := Lib.hid NM; replace KN := Lib.hid KN; replace FL := Lib.hid FL; replace NB := Lib.hid NB; replace SZ := Lib.hid SZ; replace VL := Lib.hid VL
    clear hR
    go_enter Try.func24, Try.ntmps24
    go_wp2_with fail
    refine (L.out _).mono ?_
    rintro x w1 ⟨rfl, b1⟩
    have K1 := Blk.made b1
    have d1 := below_step (alloc_one _ _) b1 (Nat.le_refl _)
    have F1 := K1.eleven
    go_wp2_with fail
    go_ret
    exact ⟨by rw [HV.out]; rfl, d1⟩
  by_cases r3 : sb < 0
  · rw [if_pos (by omega)] at hR
    have HV := Lib.hid hR
    replace L := Lib.hid L; replace NM := Lib.hid NM; replace KN := Lib.hid KN; replace FL := Lib.hid FL; replace NB := Lib.hid NB; replace SZ := Lib.hid SZ; replace VL := Lib.hid VL
    clear hR
    go_enter Try.func24, Try.ntmps24
    go_wp2_with fail
    refine (L.out _).mono ?_
    rintro x w1 ⟨rfl, b1⟩
    have K1 := Blk.made b1
    have d1 := below_step (alloc_one _ _) b1 (Nat.le_refl _)
    have F1 := K1.eleven
    go_wp2_with fail
    go_ret
    exact ⟨by rw [HV.out]; rfl, d1⟩
  by_cases r4 : 255 < sb
  · rw [if_pos (by omega)] at hR
    have HV := Lib.hid hR
    replace L := Lib.hid L; replace NM := Lib.hid NM; replace KN := Lib.hid KN; replace FL := Lib.hid FL; replace NB := Lib.hid NB; replace SZ := Lib.hid SZ; replace VL := Lib.hid VL
    clear hR
    go_enter Try.func24, Try.ntmps24
    go_wp2_with fail
    refine (L.out _).mono ?_
    rintro x w1 ⟨rfl, b1⟩
    have K1 := Blk.made b1
    have d1 := below_step (alloc_one _ _) b1 (Nat.le_refl _)
    have F1 := K1.eleven
    go_wp2_with fail
    go_ret
    exact ⟨by rw [HV.out]; rfl, d1⟩
  rw [if_neg (by omega)] at hR
  cases nmb with
  | false =>
    rw [if_pos rfl] at hR
    have HV := Lib.hid hR
    replace L := Lib.hid L; replace NM := Lib.hid NM; replace KN := Lib.hid KN; replace FL := Lib.hid FL; replace NB := Lib.hid NB; replace SZ := Lib.hid SZ; replace VL := Lib.hid VL
    clear hR
    go_enter Try.func24, Try.ntmps24
    go_wp2_with fail
    refine (L.out _).mono ?_
    rintro x w1 ⟨rfl, b1⟩
    have K1 := Blk.made b1
    have d1 := below_step (alloc_one _ _) b1 (Nat.le_refl _)
    have F1 := K1.eleven
    go_wp2_with fail
    refine (NM.out _).mono ?_
    rintro x _ ⟨rfl, rfl⟩
    go_wp2_with fail
    go_ret
    exact ⟨by rw [HV.out]; rfl, d1⟩
  | true =>
  rw [if_neg (by decide)] at hR
  by_cases hk : (Ty.kd ty).name = []
  · rw [if_pos hk] at hR
    rw [hk] at KN
    have HV := Lib.hid hR
    replace L := Lib.hid L; replace NM := Lib.hid NM; replace KN := Lib.hid KN; replace FL := Lib.hid FL; replace NB := Lib.hid NB; replace SZ := Lib.hid SZ; replace VL := Lib.hid VL
    clear hR hk
    go_enter Try.func24, Try.ntmps24
    go_wp2_with fail
    refine (L.out _).mono ?_
    rintro x w1 ⟨rfl, b1⟩
    have K1 := Blk.made b1
    have d1 := below_step (alloc_one _ _) b1 (Nat.le_refl _)
    have F1 := K1.eleven
    go_wp2_with fail
    refine (NM.out _).mono ?_
    rintro x _ ⟨rfl, rfl⟩
    go_wp2_with fail
    refine (KN.out _).mono ?_
    rintro x w2 ⟨rfl, b2⟩
    replace K1 := K1.later b2
    replace d1 := below_step d1 b2 (Nat.le_refl _)
    replace F1 := K1.eleven
    go_wp2_with fail
    go_ret
    exact ⟨by rw [HV.out]; rfl, d1⟩
  rw [if_neg hk] at hR
  have hk2 : (!(Ty.kd ty).name.isEmpty) = true := by
    cases h : (Ty.kd ty).name with
    | nil => exact absurd h hk
    | cons a b => rfl
  rw [hk2] at KN
  clear hk hk2
  cases fb with
  | false =>
    rw [if_pos rfl] at hR
    have HV := Lib.hid hR
    replace L := Lib.hid L; replace NM := Lib.hid NM; replace KN := Lib.hid KN; replace FL := Lib.hid FL; replace NB := Lib.hid NB; replace SZ := Lib.hid SZ; replace VL := Lib.hid VL
    clear hR
    go_enter Try.func24, Try.ntmps24
    go_wp2_with fail
    refine (L.out _).mono ?_
    rintro x w1 ⟨rfl, b1⟩
    have K1 := Blk.made b1
    have d1 := below_step (alloc_one _ _) b1 (Nat.le_refl _)
    have F1 := K1.eleven
    go_wp2_with fail
    refine (NM.out _).mono ?_
    rintro x _ ⟨rfl, rfl⟩
    go_wp2_with fail
    refine (KN.out _).mono ?_
    rintro x w2 ⟨rfl, b2⟩
    replace K1 := K1.later b2
    replace d1 := below_step d1 b2 (Nat.le_refl _)
    replace F1 := K1.eleven
    go_wp2_with fail
    refine (FL.out _).mono ?_
    rintro x w3 ⟨rfl, b3⟩
    replace K1 := K1.later b3
    replace d1 := below_step d1 b3 (Nat.le_refl _)
    replace F1 := K1.eleven
    go_wp2_with fail
    go_ret
    exact ⟨by rw [HV.out]; rfl, d1⟩
  | true =>
  rw [if_neg (by decide)] at hR
  cases num with
  | true =>
    rw [show (if true = true then nb else sz) = nb from rfl] at hR
    cases nb with
    | false =>
      rw [if_pos rfl] at hR
      have HV := Lib.hid hR
      replace L := Lib.hid L; replace NM := Lib.hid NM; replace KN := Lib.hid KN; replace FL := Lib.hid FL; replace NB := Lib.hid NB; replace SZ := Lib.hid SZ; replace VL := Lib.hid VL
      clear hR
      go_enter Try.func24, Try.ntmps24
      go_wp2_with fail
      refine (L.out _).mono ?_
      rintro x w1 ⟨rfl, b1⟩
      have K1 := Blk.made b1
      have d1 := below_step (alloc_one _ _) b1 (Nat.le_refl _)
      have F1 := K1.eleven
      go_wp2_with fail
      refine (NM.out _).mono ?_
      rintro x _ ⟨rfl, rfl⟩
      go_wp2_with fail
      refine (KN.out _).mono ?_
      rintro x w2 ⟨rfl, b2⟩
      replace K1 := K1.later b2
      replace d1 := below_step d1 b2 (Nat.le_refl _)
      replace F1 := K1.eleven
      go_wp2_with fail
      refine (FL.out _).mono ?_
      rintro x w3 ⟨rfl, b3⟩
      replace K1 := K1.later b3
      replace d1 := below_step d1 b3 (Nat.le_refl _)
      replace F1 := K1.eleven
      go_wp2_with fail
      refine (NB.out _).mono ?_
      rintro x w4 ⟨rfl, b4⟩
      replace K1 := K1.later b4
      replace d1 := below_step d1 b4 (Nat.le_refl _)
      replace F1 := K1.eleven
      go_wp2_with fail
      go_ret
      exact ⟨by rw [HV.out]; rfl, d1⟩
    | true =>
      rw [if_neg (by decide)] at hR
      by_cases hv : vl = 0
      · subst hv
        rw [if_neg (by decide)] at hR
        have HV := Lib.hid hR
        replace L := Lib.hid L; replace NM := Lib.hid NM; replace KN := Lib.hid KN; replace FL := Lib.hid FL; replace NB := Lib.hid NB; replace SZ := Lib.hid SZ; replace VL := Lib.hid VL
        clear hR
        go_enter Try.func24, Try.ntmps24
        go_wp2_with fail
        refine (L.out _).mono ?_
        rintro x w1 ⟨rfl, b1⟩
        have K1 := Blk.made b1
        have d1 := below_step (alloc_one _ _) b1 (Nat.le_refl _)
        have F1 := K1.eleven
        go_wp2_with fail
        refine (NM.out _).mono ?_
        rintro x _ ⟨rfl, rfl⟩
        go_wp2_with fail
        refine (KN.out _).mono ?_
        rintro x w2 ⟨rfl, b2⟩
        replace K1 := K1.later b2
        replace d1 := below_step d1 b2 (Nat.le_refl _)
        replace F1 := K1.eleven
        go_wp2_with fail
        refine (FL.out _).mono ?_
        rintro x w3 ⟨rfl, b3⟩
        replace K1 := K1.later b3
        replace d1 := below_step d1 b3 (Nat.le_refl _)
        replace F1 := K1.eleven
        go_wp2_with fail
        refine (NB.out _).mono ?_
        rintro x w4 ⟨rfl, b4⟩
        replace K1 := K1.later b4
        replace d1 := below_step d1 b4 (Nat.le_refl _)
        replace F1 := K1.eleven
        go_wp2_with fail
        refine (VL.out _ d1).mono ?_
        rintro x w5 ⟨rfl, b5⟩
        replace K1 := K1.later b5
        replace d1 := below_step d1 b5 (Nat.le_refl _)
        replace F1 := K1.eleven
        go_wp2_with fail
        go_ret
        exact ⟨by rw [HV.out]; rfl, d1⟩
      · rw [if_pos hv] at hR
        have ev : (vl != 0) = true := by simpa using hv
        have HV := Lib.hid hR
        replace L := Lib.hid L; replace NM := Lib.hid NM; replace KN := Lib.hid KN; replace FL := Lib.hid FL; replace NB := Lib.hid NB; replace SZ := Lib.hid SZ; replace VL := Lib.hid VL
        clear hR hv
        go_enter Try.func24, Try.ntmps24
        go_wp2_with fail
        refine (L.out _).mono ?_
        rintro x w1 ⟨rfl, b1⟩
        have K1 := Blk.made b1
        have d1 := below_step (alloc_one _ _) b1 (Nat.le_refl _)
        have F1 := K1.eleven
        go_wp2_with fail
        refine (NM.out _).mono ?_
        rintro x _ ⟨rfl, rfl⟩
        go_wp2_with fail
        refine (KN.out _).mono ?_
        rintro x w2 ⟨rfl, b2⟩
        replace K1 := K1.later b2
        replace d1 := below_step d1 b2 (Nat.le_refl _)
        replace F1 := K1.eleven
        go_wp2_with fail
        refine (FL.out _).mono ?_
        rintro x w3 ⟨rfl, b3⟩
        replace K1 := K1.later b3
        replace d1 := below_step d1 b3 (Nat.le_refl _)
        replace F1 := K1.eleven
        go_wp2_with fail
        refine (NB.out _).mono ?_
        rintro x w4 ⟨rfl, b4⟩
        replace K1 := K1.later b4
        replace d1 := below_step d1 b4 (Nat.le_refl _)
        replace F1 := K1.eleven
        go_wp2_with fail
        refine (VL.out _ d1).mono ?_
        rintro x w5 ⟨rfl, b5⟩
        replace K1 := K1.later b5
        replace d1 := below_step d1 b5 (Nat.le_refl _)
        replace F1 := K1.eleven
        go_wp2_with fail
        go_ret
        exact ⟨by rw [HV.out]; rfl, d1⟩
  | false =>
    rw [show (if false = true then nb else sz) = sz from rfl] at hR
    cases sz with
    | false =>
      rw [if_pos rfl] at hR
      have HV := Lib.hid hR
      replace L := Lib.hid L; replace NM := Lib.hid NM; replace KN := Lib.hid KN; replace FL := Lib.hid FL; replace NB := Lib.hid NB; replace SZ := Lib.hid SZ; replace VL := Lib.hid VL
      clear hR
      go_enter Try.func24, Try.ntmps24
      go_wp2_with fail
      refine (L.out _).mono ?_
      rintro x w1 ⟨rfl, b1⟩
      have K1 := Blk.made b1
      have d1 := below_step (alloc_one _ _) b1 (Nat.le_refl _)
      have F1 := K1.eleven
      go_wp2_with fail
      refine (NM.out _).mono ?_
      rintro x _ ⟨rfl, rfl⟩
      go_wp2_with fail
      refine (KN.out _).mono ?_
      rintro x w2 ⟨rfl, b2⟩
      replace K1 := K1.later b2
      replace d1 := below_step d1 b2 (Nat.le_refl _)
      replace F1 := K1.eleven
      go_wp2_with fail
      refine (FL.out _).mono ?_
      rintro x w3 ⟨rfl, b3⟩
      replace K1 := K1.later b3
      replace d1 := below_step d1 b3 (Nat.le_refl _)
      replace F1 := K1.eleven
      go_wp2_with fail
      refine (SZ.out _).mono ?_
      rintro x w4 ⟨rfl, b4⟩
      replace K1 := K1.later b4
      replace d1 := below_step d1 b4 (Nat.le_refl _)
      replace F1 := K1.eleven
      go_wp2_with fail
      go_ret
      exact ⟨by rw [HV.out]; rfl, d1⟩
    | true =>
      rw [if_neg (by decide)] at hR
      by_cases hv : vl = 0
      · subst hv
        rw [if_neg (by decide)] at hR
        have HV := Lib.hid hR
        replace L := Lib.hid L; replace NM := Lib.hid NM; replace KN := Lib.hid KN; replace FL := Lib.hid FL; replace NB := Lib.hid NB; replace SZ := Lib.hid SZ; replace VL := Lib.hid VL
        clear hR
        go_enter Try.func24, Try.ntmps24
        go_wp2_with fail
        refine (L.out _).mono ?_
        rintro x w1 ⟨rfl, b1⟩
        have K1 := Blk.made b1
        have d1 := below_step (alloc_one _ _) b1 (Nat.le_refl _)
        have F1 := K1.eleven
        go_wp2_with fail
        refine (NM.out _).mono ?_
        rintro x _ ⟨rfl, rfl⟩
        go_wp2_with fail
        refine (KN.out _).mono ?_
        rintro x w2 ⟨rfl, b2⟩
        replace K1 := K1.later b2
        replace d1 := below_step d1 b2 (Nat.le_refl _)
        replace F1 := K1.eleven
        go_wp2_with fail
        refine (FL.out _).mono ?_
        rintro x w3 ⟨rfl, b3⟩
        replace K1 := K1.later b3
        replace d1 := below_step d1 b3 (Nat.le_refl _)
        replace F1 := K1.eleven
        go_wp2_with fail
        refine (SZ.out _).mono ?_
        rintro x w4 ⟨rfl, b4⟩
        replace K1 := K1.later b4
        replace d1 := below_step d1 b4 (Nat.le_refl _)
        replace F1 := K1.eleven
        go_wp2_with fail
        refine (VL.out _ d1).mono ?_
        rintro x w5 ⟨rfl, b5⟩
        replace K1 := K1.later b5
        replace d1 := below_step d1 b5 (Nat.le_refl _)
        replace F1 := K1.eleven
        go_wp2_with fail
        go_ret
        exact ⟨by rw [HV.out]; rfl, d1⟩
      · rw [if_pos hv] at hR
        have ev : (vl != 0) = true := by simpa using hv
        have HV := Lib.hid hR
        replace L := Lib.hid L; replace NM := Lib.hid NM; replace KN := Lib.hid KN; replace FL := Lib.hid FL; replace NB := Lib.hid NB; replace SZ := Lib.hid SZ; replace VL := Lib.hid VL
        clear hR hv
        go_enter Try.func24, Try.ntmps24
        go_wp2_with fail
        refine (L.out _).mono ?_
        rintro x w1 ⟨rfl, b1⟩
        have K1 := Blk.made b1
        have d1 := below_step (alloc_one _ _) b1 (Nat.le_refl _)
        have F1 := K1.eleven
        go_wp2_with fail
        refine (NM.out _).mono ?_
        rintro x _ ⟨rfl, rfl⟩
        go_wp2_with fail
        refine (KN.out _).mono ?_
        rintro x w2 ⟨rfl, b2⟩
        replace K1 := K1.later b2
        replace d1 := below_step d1 b2 (Nat.le_refl _)
        replace F1 := K1.eleven
        go_wp2_with fail
        refine (FL.out _).mono ?_
        rintro x w3 ⟨rfl, b3⟩
        replace K1 := K1.later b3
        replace d1 := below_step d1 b3 (Nat.le_refl _)
        replace F1 := K1.eleven
        go_wp2_with fail
        refine (SZ.out _).mono ?_
        rintro x w4 ⟨rfl, b4⟩
        replace K1 := K1.later b4
        replace d1 := below_step d1 b4 (Nat.le_refl _)
        replace F1 := K1.eleven
        go_wp2_with fail
        refine (VL.out _ d1).mono ?_
        rintro x w5 ⟨rfl, b5⟩
        replace K1 := K1.later b5
        replace d1 := below_step d1 b5 (Nat.le_refl _)
        replace F1 := K1.eleven
        go_wp2_with fail
        go_ret
        exact ⟨by rw [HV.out]; rfl, d1⟩
end Go.Proofs.Ytgkhpebhhkdgoaa
