/-
  Texts joined: TpdRl, CellWords, TpdKnown, TpdOpen, TpdLight.
  Conditions: none.
-/
import Derived.Test.YtbmocffnnlfnjaaGreatJ10
import Derived.Test.YtbmocffnnlfnjaaGreatJ12
import Derived.Test.YtbmocffnnlfnjaaGreatJ13
import Derived.Test.YtbmocffnnlfnjaaGreatJ15
import Derived.Test.YtbmocffnnlfnjaaGreatJ18
import Derived.Test.YtbmocffnnlfnjaaGreatJ21
import Derived.Test.YtbmocffnnlfnjaaGreatJ23
import Derived.Test.YtbmocffnnlfnjaaGreatJ24
import Derived.KernelRfl
/-
  A PDO of the reference beside its dictionary, and one of the program beside it.
  Conditions: none.
-/
namespace Go.Proofs.YtbmocffnnlfnjaaGreat
set_option linter.unusedVariables false
set_option linter.unusedSimpArgs false
open Go.RowKit Go.Sort
/-- What is sent is short. -/
theorem out_small {v : Nat} {D : Dc.Dic} {ws : List Nat} {x : Bool × Tp.St} : ∀ f ∈ outT v (Tp.bytesS D v ws) x, f.data.length ≤ 1000 := by
  intro f hf
  unfold outT at hf
  split at hf
  · unfold framesS Tp.bytesS at hf
    by_cases h1 : Cob.pdo v = 0 ∨ ws.length = 0
    · rw [if_pos h1] at hf; simp at hf
    · rw [if_neg h1] at hf
      by_cases h2 : (Mp.gatherS D ws).2 = 0
      · rw [if_pos h2] at hf
        simp only [List.mem_cons, List.not_mem_nil, or_false] at hf
        subst hf
        dsimp only
        unfold Mp.gatherS at h2 ⊢
        by_cases h3 : Mp.checkS D.l false ws ≠ 0
        · rw [if_pos h3]; simp
        · rw [if_neg h3] at h2 ⊢
          have h4 : Bt.packS (Mp.fldsS D ws) = ((Bt.packS (Mp.fldsS D ws)).1, 0) := by rw [← h2]
          obtain ⟨_, h5, h6, h7⟩ := Bt.unpack_pack h4 []
          unfold Bt.bytesS at h5
          split at h5 <;> omega
      · rw [if_neg h2] at hf; simp at hf
  · simp at hf
/-- A PDO of the reference and its dictionary; all their blocks are Fp's. -/
structure Tr (w : World) (Fp : Nat → Prop) (p gd v : Nat) (t inh ev : Int) (ws : List Nat) (s : Tp.St) (D : Dc.Dic) : Prop where
  ex : ∃ (F : Nat → Prop) (gv lc vc : Nat) (lA vA : Option Addr) (xs vs : List Value) (Aw : Option Addr) (cw : Nat), DRt 72 w F gd gv lA lc vA vc xs vs D ∧ TpRM w 0 p gd v t inh ev ws Aw cw s ∧ (∀ q, F q → Fp q ∧ q ≠ p ∧ (Value.slice Aw ws.length cw).ownBlock ≠ some q) ∧ Fp p ∧ ∀ k, (Value.slice Aw ws.length cw).ownBlock = some k → Fp k
  fine : Dc.Fine D
  words : ∀ x ∈ ws, x < 4294967296
  ok : Tp.Ok t inh ev s
  chk : Mp.checkS D.l false ws = 0
  wv : v < 4294967296
  bad : Cob.bad v = false
section
variable {w w' : World} {Fp G : Nat → Prop} {p gd v : Nat} {t inh ev : Int} {ws : List Nat} {s : Tp.St} {D : Dc.Dic}
theorem Tr.lt (h : Tr w Fp p gd v t inh ev ws s D) : Fp p ∧ p < w.heap.size := by
  obtain ⟨F, gv, lc, vc, lA, vA, xs, vs, Aw, cw, hd, hp, h1, h2, h3⟩ := h.ex
  exact ⟨h2, hp.blk.lt⟩
theorem Tr.mv (h : Tr w Fp p gd v t inh ev ws s D) (hm : Mv G w w') (hd : ∀ b, b < w.heap.size → Fp b → ¬ G b) : Tr w' Fp p gd v t inh ev ws s D := by
  obtain ⟨F, gv, lc, vc, lA, vA, xs, vs, Aw, cw, hr, hp, h1, h2, h3⟩ := h.ex
  exact ⟨⟨F, gv, lc, vc, lA, vA, xs, vs, Aw, cw, hr.mv hm fun b hb hf => hd b hb (h1 b hf).1, hp.mvk hm (hd p hp.blk.lt h2) fun k hk => hd k (OV.lt hp.words k hk).2 (h3 k hk), h1, h2, h3⟩, h.fine, h.words, h.ok, h.chk, h.wv, h.bad⟩
theorem Tr.below (h : Tr w Fp p gd v t inh ev ws s D) (hb : Below w.heap.size w w') : Tr w' Fp p gd v t inh ev ws s D := h.mv (Mv.of_new hb fun _ => False) fun _ _ _ h => h
def TrOut (l : List Can.Fr) (Fp : Nat → Prop) (p gd v : Nat) (t inh ev : Int) (ws : List Nat) (s : Tp.St) (D : Dc.Dic) (w : World) (e : Ending) (w' : World) : Prop :=
  ∃ A c, e = .returned (.slice A l.length c) ∧ OS (FrW w' w.heap.size) w' w.heap.size 60 3 A l.length c l ∧ Mv (fun q => q = p) w w' ∧ Tr w' Fp p gd v t inh ev ws s D
theorem Tr.out {l : List Can.Fr} {s' : Tp.St} {gv lc vc : Nat} {lA vA : Option Addr} {xs vs : List Value} {F : Nat → Prop} {Aw : Option Addr} {cw : Nat} {e : Ending} (h : Tr w Fp p gd v t inh ev ws s D) (hd : DRt 72 w F gd gv lA lc vA vc xs vs D) (h1 : ∀ q, F q → Fp q ∧ q ≠ p ∧ (Value.slice Aw ws.length cw).ownBlock ≠ some q) (h2 : Fp p) (h3 : ∀ k, (Value.slice Aw ws.length cw).ownBlock = some k → Fp k)
    (hs : RSendP l 0 p gd v t inh ev ws Aw cw s' w e w') (ho : Tp.Ok t inh ev s') : TrOut l Fp p gd v t inh ev ws s' D w e w' := by
  obtain ⟨A, c, he, o, hm, ht⟩ := hs
  exact ⟨A, c, he, o, hm, ⟨F, gv, lc, vc, lA, vA, xs, vs, Aw, cw, hd.mv hm fun b _ hf e => (h1 b hf).2.1 e, ht, h1, h2, h3⟩, h.fine, h.words, ho, h.chk, h.wv, h.bad⟩
theorem Tr.bytes (h : Tr w Fp p gd v t inh ev ws s D) : Tp.bytesS D v ws = if Cob.pdo v = 0 ∨ ws.length = 0 then none else some (Mp.gatherS D ws).1 := by
  obtain ⟨F, gv, lc, vc, lA, vA, xs, vs, Aw, cw, hr, hp, h1, h2, h3⟩ := h.ex
  exact (Tp.bytes_ok v hr.right h.fine h.chk).2
theorem Tr.trigger (h : Tr w Fp p gd v t inh ev ws s D) : Calls Tryz.prog 14 #[.pointer (some ⟨p, 0, none⟩)] w (TrOut (outT v (Tp.bytesS D v ws) (Tp.trigS t s)) Fp p gd v t inh ev ws (stT inh ev (Tp.trigS t s)) D w) := by
  obtain ⟨F, gv, lc, vc, lA, vA, xs, vs, Aw, cw, hr, hp, h1, h2, h3⟩ := h.ex
  exact (RTrigger_any h.ok.hold.1 h.wv h.bad hp hr (fun q hq => (h1 q hq).2.1) h.fine.small h.ok.kind h.words h.bytes).mono fun e w' hs => h.out hr h1 h2 h3 hs (stT_ok h.ok.trig)
theorem Tr.tick (h : Tr w Fp p gd v t inh ev ws s D) : Calls Tryz.prog 16 #[.pointer (some ⟨p, 0, none⟩)] w (TrOut (outT v (Tp.bytesS D v ws) (Tp.tickS t s)) Fp p gd v t inh ev ws (stT inh ev (Tp.tickS t s)) D w) := by
  obtain ⟨F, gv, lc, vc, lA, vA, xs, vs, Aw, cw, hr, hp, h1, h2, h3⟩ := h.ex
  exact (RTTick_any h.ok.hold h.ok.left h.wv h.bad hp hr (fun q hq => (h1 q hq).2.1) h.fine.small h.ok.kind h.words h.bytes).mono fun e w' hs => h.out hr h1 h2 h3 hs (stT_ok h.ok.tick)
theorem Tr.pulse (h : Tr w Fp p gd v t inh ev ws s D) : Calls Tryz.prog 18 #[.pointer (some ⟨p, 0, none⟩)] w (TrOut (outT v (Tp.bytesS D v ws) (Tp.pulseS t s)) Fp p gd v t inh ev ws (stT inh ev (Tp.pulseS t s)) D w) := by
  obtain ⟨F, gv, lc, vc, lA, vA, xs, vs, Aw, cw, hr, hp, h1, h2, h3⟩ := h.ex
  exact (RTPulse_any h.ok.count h.wv h.bad hp hr (fun q hq => (h1 q hq).2.1) h.fine.small h.ok.kind h.words h.bytes).mono fun e w' hs => h.out hr h1 h2 h3 hs (stT_ok h.ok.pulse)
theorem Tr.rest (h : Tr w Fp p gd v t inh ev ws s D) : Calls Tryz.prog 20 #[.pointer (some ⟨p, 0, none⟩)] w fun e w' => e = .returned (.tuple #[]) ∧ Mv (fun q => q = p) w w' ∧ Tr w' Fp p gd v t inh ev ws (Tp.restS ev) D := by
  obtain ⟨F, gv, lc, vc, lA, vA, xs, vs, Aw, cw, hr, hp, h1, h2, h3⟩ := h.ex
  refine (RRest32_any hp).mono ?_
  rintro e w' ⟨he, hm, ht⟩
  exact ⟨he, hm, ⟨F, gv, lc, vc, lA, vA, xs, vs, Aw, cw, hr.mv hm fun b _ hf e => (h1 b hf).2.1 e, ht, h1, h2, h3⟩, h.fine, h.words, Tp.Ok.rest h.ok.kind, h.chk, h.wv, h.bad⟩
theorem Tr.id (h : Tr w Fp p gd v t inh ev ws s D) : Calls Tryz.prog 27 #[.pointer (some ⟨p, 0, none⟩)] w fun e w' => e = .returned (.int .i64 (Cob.pdo v : Int)) ∧ Below w.heap.size w w' := by
  obtain ⟨F, gv, lc, vc, lA, vA, xs, vs, Aw, cw, hr, hp, h1, h2, h3⟩ := h.ex
  exact RTId_any h.wv h.bad hp
theorem Tr.has (h : Tr w Fp p gd v t inh ev ws s D) (i j : Int) : Calls Tryz.prog 24 #[.pointer (some ⟨p, 0, none⟩), .int .i64 i, .int .i64 j] w fun e w' => e = .returned (.bool (Tp.hasS ws i j)) ∧ w = w' := by
  obtain ⟨F, gv, lc, vc, lA, vA, xs, vs, Aw, cw, hr, hp, h1, h2, h3⟩ := h.ex
  exact RTHas_any hp h.words i j
theorem Tr.poke (h : Tr w Fp p gd v t inh ev ws s D) (x y : Int) {A : Option Addr} {n c B : Nat} {b : List UInt8} (hb : RB w B A n c b) (hB : B ≤ w.heap.size) (hn : n ≤ 1000) :
    Calls Tryz.prog 22 #[.pointer (some ⟨gd, 0, none⟩), .int .i64 x, .int .i64 y, .slice A n c] w fun e w' => e = .returned (.int .u32 (Dc.mayS D.l true x y b)) ∧ Mv Fp w w' ∧ Tr w' (fun q => Fp q ∨ (w.heap.size ≤ q ∧ q < w'.heap.size)) p gd v t inh ev ws s (Dc.pokeS D x y b) := by
  obtain ⟨F, gv, lc, vc, lA, vA, xs, vs, Aw, cw, hr, hp, h1, h2, h3⟩ := h.ex
  have hpl := hp.blk.lt
  have hwl := OV.lt hp.words
  have hbl := hb.len
  refine (OneR.poke (base := 0) (F := fun q => F q ∧ q < w.heap.size) ⟨gv, lc, vc, lA, vA, xs, vs, hr.cut, fun q hq => ⟨Nat.zero_le _, hq.2⟩⟩ (Nat.zero_le _) x y hb hB (by omega)).mono ?_
  rintro e w' ⟨he, hm, _, gv', lc', vc', lA', vA', xs', vs', hd, _⟩
  have hfl := Dc.poke_l D x y b
  refine ⟨he, hm.mono fun q _ hq => (h1 q hq.1).1, ⟨_, gv', lc', vc', lA', vA', xs', vs', Aw, cw, hd, hp.mvk hm (fun e => (h1 p e.1).2.1 rfl) (fun k hk e => (h1 k e.1).2.2 hk), fun q hq => ?_, .inl h2, fun k hk => .inl (h3 k hk)⟩, h.fine.poke x y (by omega), h.words, h.ok, by rw [hfl]; exact h.chk, h.wv, h.bad⟩
  rcases hq with hq | hq
  · exact ⟨.inl (h1 q hq.1).1, (h1 q hq.1).2⟩
  · exact ⟨.inr hq, by omega, fun hk => by have := (hwl q hk).2; omega⟩
theorem Tr.new {F : Nat → Prop} {gv lc vc : Nat} {lA vA : Option Addr} {xs vs : List Value} {Aw : Option Addr} {cw : Nat} (hd : DRt 72 w F gd gv lA lc vA vc xs vs D) (hF : ∀ q, F q → q < w.heap.size) (hb : Below w.heap.size w w') (hp : TpRM w' w.heap.size p gd v t inh ev ws Aw cw s) (hf : Dc.Fine D) (hwl : ∀ x ∈ ws, x < 4294967296) (ho : Tp.Ok t inh ev s) (hc : Mp.checkS D.l false ws = 0) (wv : v < 4294967296) (bad : Cob.bad v = false) :
    Tr w' (fun q => F q ∨ (w.heap.size ≤ q ∧ q < w'.heap.size)) p gd v t inh ev ws s D := by
  have hpl := hp.blk.lt
  have hpg := hp.gb
  have hwk := OV.lt hp.words
  exact ⟨⟨F, gv, lc, vc, lA, vA, xs, vs, Aw, cw, hd.below hb, hp.zero, fun q hq => ⟨.inl hq, by have := hF q hq; omega, fun hk => by have := (hwk q hk).1; have := hF q hq; omega⟩, .inr ⟨hpg, hpl⟩, fun k hk => .inr (hwk k hk)⟩, hf, hwl, ho, hc, wv, bad⟩
end
/-- Both, apart from one another; all their blocks lie behind 'lo' and ahead of 'hi' and 'hj'. -/
structure Tw (w : World) (lo hi hj p gd r gr v : Nat) (t inh ev : Int) (ws : List Nat) (sp sr : Tp.St) (Dp Dr : Dc.Dic) : Prop where
  ex : ∃ Fp Fr : Nat → Prop, Tl w Fp p gd v t inh ev ws sp Dp ∧ Tr w Fr r gr v t inh ev ws sr Dr ∧ (∀ q, Fp q → ¬ Fr q) ∧ (∀ q, Fp q → lo < q ∧ q < hi) ∧ ∀ q, Fr q → lo < q ∧ q < hj
section
variable {w w' : World} {lo hi hj p gd r gr v : Nat} {t inh ev : Int} {ws : List Nat} {sp sr : Tp.St} {Dp Dr : Dc.Dic} {l : List Can.Fr}
theorem Tw.lt (h : Tw w lo hi hj p gd r gr v t inh ev ws sp sr Dp Dr) : (lo < p ∧ p < hi ∧ p < w.heap.size) ∧ lo < r ∧ r < hj ∧ r < w.heap.size := by
  obtain ⟨Fp, Fr, h1, h2, h3, h4, h5⟩ := h.ex
  have := h4 p h1.lt.1
  have := h5 r h2.lt.1
  exact ⟨⟨by omega, by omega, h1.lt.2⟩, by omega, by omega, h2.lt.2⟩
theorem Tw.mv {G : Nat → Prop} (h : Tw w lo hi hj p gd r gr v t inh ev ws sp sr Dp Dr) (hm : Mv G w w') (hG : ∀ q, lo < q → q < hi ∨ q < hj → ¬ G q) : Tw w' lo hi hj p gd r gr v t inh ev ws sp sr Dp Dr := by
  obtain ⟨Fp, Fr, h1, h2, h3, h4, h5⟩ := h.ex
  exact ⟨Fp, Fr, h1.mv hm fun b _ hb => hG b (h4 b hb).1 (.inl (h4 b hb).2), h2.mv hm fun b _ hb => hG b (h5 b hb).1 (.inr (h5 b hb).2), h3, h4, h5⟩
theorem Tw.below (h : Tw w lo hi hj p gd r gr v t inh ev ws sp sr Dp Dr) (hb : Below w.heap.size w w') : Tw w' lo hi hj p gd r gr v t inh ev ws sp sr Dp Dr := h.mv (Mv.of_new hb fun _ => False) fun _ _ _ h => h
theorem Tw.wide {hi' hj' : Nat} (h : Tw w lo hi hj p gd r gr v t inh ev ws sp sr Dp Dr) (hh : hi ≤ hi') (hh' : hj ≤ hj') : Tw w lo hi' hj' p gd r gr v t inh ev ws sp sr Dp Dr := by
  obtain ⟨Fp, Fr, h1, h2, h3, h4, h5⟩ := h.ex
  exact ⟨Fp, Fr, h1, h2, h3, fun q hq => by have := h4 q hq; omega, fun q hq => by have := h5 q hq; omega⟩
/-- What a call of one of both sends. -/
def TwOut (x : Nat) (l : List Can.Fr) (lo hi hj p gd r gr v : Nat) (t inh ev : Int) (ws : List Nat) (sp sr : Tp.St) (Dp Dr : Dc.Dic) (w : World) (e : Ending) (w' : World) : Prop :=
  ∃ A c, e = .returned (.slice A l.length c) ∧ OS (FrW w' w.heap.size) w' w.heap.size 60 3 A l.length c l ∧ Mv (fun q => q = x) w w' ∧ Tw w' lo hi hj p gd r gr v t inh ev ws sp sr Dp Dr
theorem Tw.tl {f : FuncId} {sp' : Tp.St} (h : Tw w lo hi hj p gd r gr v t inh ev ws sp sr Dp Dr) (hc : ∀ Fp, Tl w Fp p gd v t inh ev ws sp Dp → Calls Tryz.prog f #[.pointer (some ⟨p, 0, none⟩)] w (TlOut l Fp p gd v t inh ev ws sp' Dp w)) :
    Calls Tryz.prog f #[.pointer (some ⟨p, 0, none⟩)] w (TwOut p l lo hi hj p gd r gr v t inh ev ws sp' sr Dp Dr w) := by
  obtain ⟨Fp, Fr, h1, h2, h3, h4, h5⟩ := h.ex
  refine (hc Fp h1).mono ?_
  rintro e w' ⟨A, c, he, o, hm, ht⟩
  exact ⟨A, c, he, o, hm, Fp, Fr, ht, h2.mv hm fun b _ hb e => by subst e; exact h3 _ h1.lt.1 hb, h3, h4, h5⟩
theorem Tw.tr {f : FuncId} {sr' : Tp.St} (h : Tw w lo hi hj p gd r gr v t inh ev ws sp sr Dp Dr) (hc : ∀ Fr, Tr w Fr r gr v t inh ev ws sr Dr → Calls Tryz.prog f #[.pointer (some ⟨r, 0, none⟩)] w (TrOut l Fr r gr v t inh ev ws sr' Dr w)) :
    Calls Tryz.prog f #[.pointer (some ⟨r, 0, none⟩)] w (TwOut r l lo hi hj p gd r gr v t inh ev ws sp sr' Dp Dr w) := by
  obtain ⟨Fp, Fr, h1, h2, h3, h4, h5⟩ := h.ex
  refine (hc Fr h2).mono ?_
  rintro e w' ⟨A, c, he, o, hm, ht⟩
  exact ⟨A, c, he, o, hm, Fp, Fr, h1.mv hm fun b _ hb e => by subst e; exact h3 _ hb h2.lt.1, ht, h3, h4, h5⟩
theorem Tw.rest (h : Tw w lo hi hj p gd r gr v t inh ev ws sp sr Dp Dr) : Calls Tryz.prog 19 #[.pointer (some ⟨p, 0, none⟩)] w fun e w' => e = .returned (.tuple #[]) ∧ Mv (fun q => q = p) w w' ∧ Tw w' lo hi hj p gd r gr v t inh ev ws (Tp.restS ev) sr Dp Dr := by
  obtain ⟨Fp, Fr, h1, h2, h3, h4, h5⟩ := h.ex
  refine h1.rest.mono ?_
  rintro e w' ⟨he, hm, ht⟩
  exact ⟨he, hm, Fp, Fr, ht, h2.mv hm fun b _ hb e => by subst e; exact h3 _ h1.lt.1 hb, h3, h4, h5⟩
theorem Tw.rrest (h : Tw w lo hi hj p gd r gr v t inh ev ws sp sr Dp Dr) : Calls Tryz.prog 20 #[.pointer (some ⟨r, 0, none⟩)] w fun e w' => e = .returned (.tuple #[]) ∧ Mv (fun q => q = r) w w' ∧ Tw w' lo hi hj p gd r gr v t inh ev ws sp (Tp.restS ev) Dp Dr := by
  obtain ⟨Fp, Fr, h1, h2, h3, h4, h5⟩ := h.ex
  refine h2.rest.mono ?_
  rintro e w' ⟨he, hm, ht⟩
  exact ⟨he, hm, Fp, Fr, h1.mv hm fun b _ hb e => by subst e; exact h3 _ hb h2.lt.1, ht, h3, h4, h5⟩
theorem Tw.id (h : Tw w lo hi hj p gd r gr v t inh ev ws sp sr Dp Dr) : Calls Tryz.prog 26 #[.pointer (some ⟨p, 0, none⟩)] w fun e w' => e = .returned (.int .i64 (Cob.pdo v : Int)) ∧ w = w' := by
  obtain ⟨Fp, Fr, h1, h2, h3, h4, h5⟩ := h.ex
  exact h1.id
theorem Tw.rid (h : Tw w lo hi hj p gd r gr v t inh ev ws sp sr Dp Dr) : Calls Tryz.prog 27 #[.pointer (some ⟨r, 0, none⟩)] w fun e w' => e = .returned (.int .i64 (Cob.pdo v : Int)) ∧ Below w.heap.size w w' := by
  obtain ⟨Fp, Fr, h1, h2, h3, h4, h5⟩ := h.ex
  exact h2.id
theorem Tw.has (h : Tw w lo hi hj p gd r gr v t inh ev ws sp sr Dp Dr) (i j : Int) : Calls Tryz.prog 23 #[.pointer (some ⟨p, 0, none⟩), .int .i64 i, .int .i64 j] w fun e w' => e = .returned (.bool (Tp.hasS ws i j)) ∧ w = w' := by
  obtain ⟨Fp, Fr, h1, h2, h3, h4, h5⟩ := h.ex
  exact h1.has i j
theorem Tw.rhas (h : Tw w lo hi hj p gd r gr v t inh ev ws sp sr Dp Dr) (i j : Int) : Calls Tryz.prog 24 #[.pointer (some ⟨r, 0, none⟩), .int .i64 i, .int .i64 j] w fun e w' => e = .returned (.bool (Tp.hasS ws i j)) ∧ w = w' := by
  obtain ⟨Fp, Fr, h1, h2, h3, h4, h5⟩ := h.ex
  exact h2.has i j
/-- Pokes: blocks between 'lo' and 'hi' ('hj'), and new ones, are written. -/
theorem Tw.poke (h : Tw w lo hi hj p gd r gr v t inh ev ws sp sr Dp Dr) (hh : hi ≤ w.heap.size) (hh' : hj ≤ w.heap.size) (x y : Int) {A : Option Addr} {n c B : Nat} {b : List UInt8} (hb : RB w B A n c b) (hB : B ≤ w.heap.size) (hn : n ≤ 1000) :
    Calls Tryz.prog 21 #[.pointer (some ⟨gd, 0, none⟩), .int .i64 x, .int .i64 y, .slice A n c] w fun e w' => e = .returned (.int .u32 (Dc.mayS Dp.l true x y b)) ∧ Mv (fun q => lo < q ∧ q < hi) w w' ∧ Tw w' lo w'.heap.size hj p gd r gr v t inh ev ws sp sr (Dc.pokeS Dp x y b) Dr := by
  obtain ⟨Fp, Fr, h1, h2, h3, h4, h5⟩ := h.ex
  have hp := h.lt
  refine (h1.poke x y hb hB hn).mono ?_
  rintro e w' ⟨he, hm, ht⟩
  have hz := hm.size
  refine ⟨he, hm.mono fun q _ hq => h4 q hq, _, Fr, ht, h2.mv hm fun q _ hq hq2 => h3 q hq2 hq, fun q hq hq2 => ?_, fun q hq => ?_, h5⟩
  · rcases hq with hq | hq
    · exact h3 q hq hq2
    · have := h5 q hq2; omega
  · rcases hq with hq | hq
    · have := h4 q hq; omega
    · omega
theorem Tw.rpoke (h : Tw w lo hi hj p gd r gr v t inh ev ws sp sr Dp Dr) (hh : hi ≤ w.heap.size) (hh' : hj ≤ w.heap.size) (x y : Int) {A : Option Addr} {n c B : Nat} {b : List UInt8} (hb : RB w B A n c b) (hB : B ≤ w.heap.size) (hn : n ≤ 1000) :
    Calls Tryz.prog 22 #[.pointer (some ⟨gr, 0, none⟩), .int .i64 x, .int .i64 y, .slice A n c] w fun e w' => e = .returned (.int .u32 (Dc.mayS Dr.l true x y b)) ∧ Mv (fun q => lo < q ∧ q < hj) w w' ∧ Tw w' lo hi w'.heap.size p gd r gr v t inh ev ws sp sr Dp (Dc.pokeS Dr x y b) := by
  obtain ⟨Fp, Fr, h1, h2, h3, h4, h5⟩ := h.ex
  have hp := h.lt
  refine (h2.poke x y hb hB hn).mono ?_
  rintro e w' ⟨he, hm, ht⟩
  have hz := hm.size
  refine ⟨he, hm.mono fun q _ hq => h5 q hq, Fp, _, h1.mv hm fun q _ hq hq2 => h3 q hq hq2, ht, fun q hq hq2 => ?_, h4, fun q hq => ?_⟩
  · rcases hq2 with hq2 | hq2
    · exact h3 q hq hq2
    · have := h4 q hq; omega
  · rcases hq with hq | hq
    · have := h5 q hq; omega
    · omega
/-- A row of frames' bytes, when bytes that were made later are spoiled. -/
theorem FrW.frc {w : World} {base : Nat} {f : Can.Fr} {cs : List Value} (h : FrW w base f cs) : FrC w w.heap.size f cs := by
  obtain ⟨A, n, c, h1, h2⟩ := h
  exact ⟨A, n, c, h1, h2.rb⟩
theorem OS.rf {base n c : Nat} {A : Option Addr} {l : List Can.Fr} (h : OS (FrW w base) w base 60 3 A n c l) : RF w w.heap.size A n c l := h.rs.imp fun _ _ h => h.frc
end
end Go.Proofs.YtbmocffnnlfnjaaGreat
/-
  Words as a slice's cell, in an argument.
  Conditions: none.
-/
namespace Go.Proofs.YtbmocffnnlfnjaaGreat
set_option linter.unusedVariables false
set_option linter.unusedSimpArgs false
open Go.ChangeShapes Go.WideShapes Go.ChangeAt Go.RowKit
section
variable {H : Type} {enc : TypeId × Value → H} {w : World} {spare : Nat → Bool} {held : Bool}
set_option maxRecDepth 100000 in
theorem cell_words {fuel : Nat} {v : Value} {x : DataW H × List MemPlace} (h : DataW.trod enc Tryz.prog w 0 spare held fuel 24 [v] = some x) :
    ∃ (A : Option Addr) (n c : Nat) (ws : List Nat), v = .slice A n c ∧ RW w w.heap.size A n c ws ∧ ∀ x ∈ ws, x < 4294967296 := by
  obtain ⟨A, n, c, rfl⟩ := cell_slice Tryz.underlying24 h
  obtain ⟨ws, xs, hl, h1, h2⟩ := open_rows (fun (x : Nat) cs => cs = [.int .u32 (x : Int)] ∧ x < 4294967296) Tryz.underlying24 (show Tryz.prog.cellsOf 23 = 1 by kernel_rfl) (by decide) (fun _ cs _ h => by
    have h3 : cs.length = 1 := (DataW.trod_int Tryz.underlying23 h).elim fun z hz => by rw [hz.1]; rfl
    match cs, h3 with
    | [a], _ =>
      obtain ⟨i, rfl, hw⟩ := cell_int Tryz.underlying23 h
      obtain ⟨b1, b2⟩ := bounds_u32 hw
      obtain ⟨m, rfl⟩ := Int.eq_ofNat_of_zero_le b1
      exact ⟨m, rfl, by omega⟩) h
  have e : xs = ws.map fun (x : Nat) => Value.int .u32 (x : Int) := by
    apply List.ext_getElem?
    intro i
    have hx := h2.len
    rw [List.getElem?_map]
    by_cases hi : i < ws.length
    · have := (h2.2 i _ (List.getElem?_eq_getElem hi)).1
      have e0 : ((xs.drop (i * 1)).take 1)[0]? = xs[i]? := by rw [List.getElem?_take, List.getElem?_drop]; simp
      rw [this] at e0
      simp [List.getElem?_eq_getElem hi, ← e0]
    · rw [List.getElem?_eq_none (by omega), List.getElem?_eq_none (by omega)]; rfl
  subst e
  refine ⟨A, n, c, ws, rfl, h1, fun x hm => ?_⟩
  obtain ⟨i, hi, rfl⟩ := List.getElem_of_mem hm
  exact (h2.2 i _ (List.getElem?_eq_getElem hi)).2
end
theorem RW.lit (w : World) (ws : List Nat) (cs : List Value) (n : Nat) (hc : cs = ws.map fun (x : Nat) => Value.int .u32 (x : Int)) (hn : ws.length = n) (hm : n ≤ 9223372036854775807) : RW (w.alloc (.cells cs.toArray 23)) (w.heap.size + 1) (some ⟨w.heap.size, 0, none⟩) n n ws := by
  subst hc
  exact RV.lit w 23 n (size := 1) (by simp [hn]) hm
end Go.Proofs.YtbmocffnnlfnjaaGreat
/-
  Walk: 'known' of the statements of layer 32.
  Conditions: none.
-/
namespace Go.Proofs.YtbmocffnnlfnjaaGreat
set_option linter.unusedVariables false
set_option linter.unusedSimpArgs false
open Go.RowKit
def ka32 : Ent.En := ⟨24576, 1, [97], 5, 4, true, false, 0, 0, 9, [5]⟩
theorem k32new : Dc.newS [ka32] = (0, 0) := by kernel_rfl
theorem k32chk : Tp.checkS [ka32] 389 255 2 0 [1610613000] = 0 := by kernel_rfl
theorem k32id : (Cob.pdo 389 : Int) = 389 := by kernel_rfl
theorem k32b : Tp.bytesS ⟨[ka32], [ka32].map (·.dflt)⟩ 389 [1610613000] = some [5] := by kernel_rfl
theorem k32o1 : outT 389 (some [5]) (Tp.trigS 255 (Tp.restS 0)) = [⟨389, false, [5]⟩] := by kernel_rfl
theorem k32s1 : stT 2 0 (Tp.trigS 255 (Tp.restS 0)) = ⟨false, 2, 0, 0⟩ := by kernel_rfl
theorem k32o2 : outT 389 (some [5]) (Tp.trigS 255 ⟨false, 2, 0, 0⟩) = [] := by kernel_rfl
theorem k32s2 : stT 2 0 (Tp.trigS 255 ⟨false, 2, 0, 0⟩) = ⟨true, 2, 0, 0⟩ := by kernel_rfl
theorem k32o3 : outT 389 (some [5]) (Tp.tickS 255 ⟨true, 2, 0, 0⟩) = [] := by kernel_rfl
theorem k32s3 : stT 2 0 (Tp.tickS 255 ⟨true, 2, 0, 0⟩) = ⟨true, 1, 0, 0⟩ := by kernel_rfl
theorem k32o4 : outT 389 (some [5]) (Tp.tickS 255 ⟨true, 1, 0, 0⟩) = [⟨389, false, [5]⟩] := by kernel_rfl
theorem k32s4 : stT 2 0 (Tp.tickS 255 ⟨true, 1, 0, 0⟩) = ⟨false, 2, 0, 0⟩ := by kernel_rfl
theorem k32h1 : Tp.hasS [1610613000] 24576 1 = true := by kernel_rfl
theorem k32h2 : Tp.hasS [1610613000] 24576 0 = false := by kernel_rfl
theorem k32entries (w : World) : REn ((w.alloc (.cells #[.int .u8 5] 5)).alloc
    (.cells #[.int .i64 24576, .int .i64 1, .string (T [97]), .int .i64 5, .int .i64 4, .bool true, .bool false, .int .i64 0, .int .i64 0, .int .i64 9, .slice (some ⟨w.heap.size, 0, none⟩) 1 1] 63))
    (w.heap.size + 1 + 1) (w.heap.size + 1) (some ⟨w.heap.size + 1, 0, none⟩) 1 1 [ka32] := by
  have r1 := (RB.lit w [.int .u8 5] [5] rfl (n := 1) rfl (by omega)).alloc (by simp) (.cells #[.int .i64 24576, .int .i64 1, .string (T [97]), .int .i64 5, .int .i64 4, .bool true, .bool false, .int .i64 0, .int .i64 0, .int .i64 9, .slice (some ⟨w.heap.size, 0, none⟩) 1 1] 63)
  have rl := RV.lit (w.alloc (.cells #[.int .u8 5] 5)) 63 1 (size := 11) (cs := [.int .i64 24576, .int .i64 1, .string (T [97]), .int .i64 5, .int .i64 4, .bool true, .bool false, .int .i64 0, .int .i64 0, .int .i64 9, .slice (some ⟨w.heap.size, 0, none⟩) 1 1]) rfl (by omega)
  simp only [World.size_alloc] at r1 rl
  refine ⟨_, rl, ?_⟩
  have h1 : EnC ((w.alloc (.cells #[.int .u8 5] 5)).alloc
    (.cells #[.int .i64 24576, .int .i64 1, .string (T [97]), .int .i64 5, .int .i64 4, .bool true, .bool false, .int .i64 0, .int .i64 0, .int .i64 9, .slice (some ⟨w.heap.size, 0, none⟩) 1 1] 63)) (w.heap.size + 1) ka32 (enL ka32 (some ⟨w.heap.size, 0, none⟩) 1 1) := ⟨_, _, _, rfl, r1⟩
  exact Rows.one h1 rfl
theorem k32dflt : ∀ e ∈ [ka32], e.dflt.length ≤ 1000000 := by intro e he; simp only [List.mem_cons, List.not_mem_nil, or_false] at he; subst he; decide
theorem k32vals : ∀ v ∈ [ka32].map (·.dflt), v.length ≤ 1000000 := by intro v hv; simp only [List.map_cons, List.map_nil, List.mem_cons, List.not_mem_nil, or_false] at hv; subst hv; decide
theorem k32words : ∀ x ∈ [1610613000], x < 4294967296 := by intro x hx; simp at hx; omega
set_option maxRecDepth 100000 in
set_option maxHeartbeats 8000000 in
theorem known32_any (w : World) : Calls Tryz.prog 5 #[] w fun e w' => e = .returned (.bool true) ∧ Below w.heap.size w w' := by
  have F := k32entries w
  have b0 : Below w.heap.size w ((w.alloc (.cells #[.int .u8 5] 5)).alloc
    (.cells #[.int .i64 24576, .int .i64 1, .string (T [97]), .int .i64 5, .int .i64 4, .bool true, .bool false, .int .i64 0, .int .i64 0, .int .i64 9, .slice (some ⟨w.heap.size, 0, none⟩) 1 1] 63)) := alloc_two _ _ _
  have NW := dNew_any _ F (by simp) (by omega) (by intro e he; simp only [List.mem_cons, List.not_mem_nil, or_false] at he; subst he; decide)
  unfold NewPost at NW
  rw [k32new] at NW
  replace NW := Lib.hid NW
  go_enter Tryz.func5, Tryz.ntmps5
  go_wp2_with fail
  refine (NW.out).mono ?_
  rintro e w1 (⟨_, b1, g, gv, lc, vc, la, vA, xs, vs, rfl, hd⟩ | ⟨h0, _⟩)
  case inr => exact absurd rfl h0
  have d1 := below_step b0 b1 (Nat.le_refl _)
  replace hd := hd.cut
  clear NW F b0 b1
  go_wp2_with fail
  have bW := alloc_one w1 (.cells #[.int .u32 1610613000] 23)
  have RN := TpNew_any 389 (by omega) 255 2 0 (hd.below bW) k32dflt (RW.lit w1 [1610613000] [.int .u32 1610613000] 1 rfl rfl (by omega)) k32words (by simp)
  unfold TNewP at RN
  rw [k32chk] at RN
  replace RN := Lib.hid RN
  refine (RN.out).mono ?_
  rintro e w2 (⟨_, b2, p, Aw, cw, rfl, hp⟩ | ⟨h0, _⟩)
  case inr => exact absurd rfl h0
  have b12 := below_step bW b2 (Nat.le_refl _)
  have d2 := below_step d1 b12 (Nat.le_refl _)
  have hdw := hd.below bW
  have TL := Tl.new hdw (fun q hq => by have := bW.size; omega) b2 hp (Dc.Fine.new (by rw [k32new]) (by intro e he; simp only [List.mem_cons, List.not_mem_nil, or_false] at he; subst he; decide)) k32dflt k32words (Tp.Ok.rest (by kernel_rfl))
  have hFp : ∀ q, ((w.heap.size + 1 + 1 ≤ q ∧ q < w1.heap.size) ∨ ((w1.alloc (.cells #[.int .u32 1610613000] 23)).heap.size ≤ q ∧ q < w2.heap.size)) → w.heap.size ≤ q := by
    intro q hq
    have := d1.size
    simp only [World.size_alloc] at hq
    omega
  obtain ⟨Fp, hFpe⟩ : ∃ Fp : Nat → Prop, Fp = fun q => (w.heap.size + 1 + 1 ≤ q ∧ q < w1.heap.size) ∨ ((w1.alloc (.cells #[.int .u32 1610613000] 23)).heap.size ≤ q ∧ q < w2.heap.size) := ⟨_, rfl⟩
  replace hFp : ∀ q, Fp q → w.heap.size ≤ q := by rw [hFpe]; exact hFp
  replace TL : Tl w2 Fp p g 389 255 2 0 [1610613000] (Tp.restS 0) ⟨[ka32], [ka32].map (·.dflt)⟩ := by rw [hFpe]; simpa using TL
  clear hFpe RN bW b2 b12 hp hd hdw
  have hpw := hFp p TL.lt.1
  have hpz := TL.lt.2
  have TR := TL.trigger
  rw [k32b, k32o1, k32s1] at TR
  unfold TlOut at TR
  replace TR := Lib.hid TR
  clear TL
  go_wp2_with fail
  refine (TR.out).mono ?_
  rintro e w3 ⟨A3, c3, rfl, o3, M3, TL3⟩
  have d3 : Below w.heap.size w w3 := d2.trans (M3.below d2.size fun q e => by subst e; exact hpw)
  have hp2 : p < w2.heap.size := hpz
  have T2 := TL3.trigger
  rw [k32b, k32o2, k32s2] at T2
  unfold TlOut at T2
  replace T2 := Lib.hid T2
  clear TR TL3
  go_wp2_with fail
  refine (T2.out).mono ?_
  rintro e w4 ⟨A4, c4, rfl, o4, M4, TL4⟩
  have d4 : Below w.heap.size w w4 := d3.trans (M4.below d3.size fun q e => by subst e; exact hpw)
  have o34 := o3.lowk M4 fun q e => by subst e; exact hp2
  have T3 := TL4.tick
  rw [k32b, k32o3, k32s3] at T3
  unfold TlOut at T3
  replace T3 := Lib.hid T3
  clear T2 TL4 o3 o4
  go_wp2_with fail
  refine (T3.out).mono ?_
  rintro e w5 ⟨A5, c5, rfl, o5, M5, TL5⟩
  have d5 : Below w.heap.size w w5 := d4.trans (M5.below d4.size fun q e => by subst e; exact hpw)
  have o35 := o34.lowk M5 fun q e => by subst e; exact hp2
  have T4 := TL5.tick
  rw [k32b, k32o4, k32s4] at T4
  unfold TlOut at T4
  replace T4 := Lib.hid T4
  clear T3 TL5 o34 o5
  go_wp2_with fail
  refine (T4.out).mono ?_
  rintro e w6 ⟨A6, c6, rfl, o6, M6, TL6⟩
  have d6 : Below w.heap.size w w6 := d5.trans (M6.below d5.size fun q e => by subst e; exact hpw)
  have o36 := o35.lowk M6 fun q e => by subst e; exact hp2
  obtain ⟨q, oo, cs, rfl, hq, ⟨A2, n2, c2, rfl, ow⟩, hc⟩ := RS.at_ o36.rs (i := 0) (by decide) (f := ⟨389, false, [5]⟩) rfl
  have q0 := hc 0 _ (by decide) rfl
  have q2 := hc 2 _ (by decide) rfl
  have hcv : 1 ≤ c3 ∧ c3 ≤ 9223372036854775807 := by obtain ⟨zs, z1, _⟩ := o36; exact ⟨z1.rv.le, z1.rv.cap⟩
  obtain ⟨hcv1, hcv2⟩ := hcv
  simp only [Nat.zero_mul, Nat.add_zero] at q0 q2
  have e2 := convb ow.rb
  have H1 := TL6.has 24576 1
  have H2 := TL6.has 24576 0
  have ID := TL6.id
  rw [k32h1] at H1
  rw [k32h2] at H2
  rw [k32id] at ID
  replace H1 := Lib.hid H1; replace H2 := Lib.hid H2; replace ID := Lib.hid ID
  clear T4 TL6 o35 o36 o6 hc ow
  go_wp2_with fail
  refine (H1.out).mono ?_
  rintro e _ ⟨rfl, rfl⟩
  go_wp2_with fail
  refine (H2.out).mono ?_
  rintro e _ ⟨rfl, rfl⟩
  go_wp2_with fail
  refine (ID.out).mono ?_
  rintro e _ ⟨rfl, rfl⟩
  go_wp2_with fail
  go_ret
  exact ⟨rfl, d6⟩
end Go.Proofs.YtbmocffnnlfnjaaGreat
/-
  Arguments of the statements of layer 32; given.
  Conditions: none.
-/
namespace Go.Proofs.YtbmocffnnlfnjaaGreat
set_option linter.unusedVariables false
set_option linter.unusedSimpArgs false
open Go.ChangeShapes Go.WideShapes Go.ChangeAt Go.RowKit
/-- Something that happens. -/
structure TOp where
  kind : Int
  index : Int
  sub : Int
  data : List UInt8
def top0 : TOp := ⟨0, 0, 0, []⟩
def TOpC (w : World) (B : Nat) (f : TOp) (cs : List Value) : Prop := ∃ A n c, cs = [.int .i64 f.kind, .int .i64 f.index, .int .i64 f.sub, .slice A n c] ∧ RB w B A n c f.data
def TOps (w : World) (B B' : Nat) (A : Option Addr) (n c : Nat) (fs : List TOp) : Prop := RS (TOpC w B') w B 4 A n c fs
theorem TOpC.below {w w' : World} {B : Nat} {f : TOp} {cs : List Value} (hb : Below B w w') (h : TOpC w B f cs) : TOpC w' B f cs := by
  obtain ⟨A, n, c, h1, h2⟩ := h
  exact ⟨A, n, c, h1, h2.below hb⟩
section
variable {w w' : World} {B B' n c : Nat} {A : Option Addr} {fs : List TOp}
theorem TOps.len (h : TOps w B B' A n c fs) : fs.length = n := RS.len h (by decide)
theorem TOps.lt (h : TOps w B B' A n c fs) : n ≤ 9223372036854775807 := RS.lt h
theorem TOps.below (h : TOps w B B' A n c fs) (hb : Below B w w') (hB : B' ≤ B) : TOps w' B B' A n c fs := RS.below h hb fun _ _ h => h.below (hb.mono hB)
theorem TOps.at_ (h : TOps w B B' A n c fs) {i : Nat} (hi : i < n) : ∃ b o A' n' c', A = some ⟨b, o, none⟩ ∧ b < B ∧ w.cell? ⟨b, o + i * 4, none⟩ = some (.int .i64 (fs.getD i top0).kind) ∧
    w.cell? ⟨b, o + i * 4 + 1, none⟩ = some (.int .i64 (fs.getD i top0).index) ∧ w.cell? ⟨b, o + i * 4 + 2, none⟩ = some (.int .i64 (fs.getD i top0).sub) ∧ w.cell? ⟨b, o + i * 4 + 3, none⟩ = some (.slice A' n' c') ∧ RB w B' A' n' c' (fs.getD i top0).data := by
  have hl := h.len
  have hf : fs[i]? = some (fs.getD i top0) := by simp [List.getD, List.getElem?_eq_getElem (show i < fs.length by omega)]
  obtain ⟨b, o, cs, rfl, hb, ⟨A', n', c', rfl, hr⟩, hc⟩ := RS.at_ h (by decide) hf
  exact ⟨b, o, A', n', c', rfl, hb, hc 0 _ (by decide) rfl, hc 1 _ (by decide) rfl, hc 2 _ (by decide) rfl, hc 3 _ (by decide) rfl, hr⟩
end
section
variable {H : Type} {enc : TypeId × Value → H} {w : World} {spare : Nat → Bool} {held : Bool}
set_option maxRecDepth 100000 in
theorem cells_tconfig {fuel : Nat} {cs : List Value} {x : DataW H × List MemPlace} (h : DataW.trod enc Tryz.prog w 0 spare held fuel 26 cs = some x) :
    ∃ (v : Nat) (t inh ev : Int) (A : Option Addr) (n c : Nat) (ws : List Nat), cs = [.int .u32 (v : Int), .int .i64 t, .int .i64 inh, .int .i64 ev, .slice A n c] ∧ v < 4294967296 ∧ RW w w.heap.size A n c ws ∧ (∀ x ∈ ws, x < 4294967296) ∧ (Lit.int .i64 t).wf = true ∧ (Lit.int .i64 inh).wf = true ∧ (Lit.int .i64 ev).wf = true := by
  have h3 : cs.length = 5 := trod_len Tryz.underlying26 h (by kernel_rfl)
  match cs, h3 with
  | [a, b, b', b'', d], _ =>
    obtain ⟨_, _, t0⟩ := trod_one Tryz.underlying26 h 0 23 0 a rfl (by kernel_rfl) rfl
    obtain ⟨_, _, t1⟩ := trod_one Tryz.underlying26 h 1 3 1 b rfl (by kernel_rfl) rfl
    obtain ⟨_, _, t1'⟩ := trod_one Tryz.underlying26 h 2 3 2 b' rfl (by kernel_rfl) rfl
    obtain ⟨_, _, t1''⟩ := trod_one Tryz.underlying26 h 3 3 3 b'' rfl (by kernel_rfl) rfl
    obtain ⟨_, _, t2⟩ := trod_one Tryz.underlying26 h 4 24 4 d rfl (by kernel_rfl) rfl
    obtain ⟨i, rfl, wi⟩ := cell_int Tryz.underlying23 t0
    obtain ⟨j, rfl, wj⟩ := cell_int Tryz.underlying3 t1
    obtain ⟨j', rfl, wj'⟩ := cell_int Tryz.underlying3 t1'
    obtain ⟨j'', rfl, wj''⟩ := cell_int Tryz.underlying3 t1''
    obtain ⟨A, n, c, ws, rfl, hr, hwl⟩ := cell_words t2
    obtain ⟨b1, b2⟩ := bounds_u32 wi
    obtain ⟨m, rfl⟩ := Int.eq_ofNat_of_zero_le b1
    exact ⟨m, j, j', j'', A, n, c, ws, rfl, by omega, hr, hwl, wj, wj', wj''⟩
set_option maxRecDepth 100000 in
theorem open_tconfig {r : Reach} {b0 : Nat} {v : Value} {d : DataW H} {p : List MemPlace} (hv : Value.okWide Tryz.prog w r b0 26 v) (h : DataW.Trod enc Tryz.prog w 0 spare held 26 v d p) :
    ∃ (v1 : Nat) (t inh ev : Int) (A : Option Addr) (n c : Nat) (ws : List Nat), v = .agg #[.int .u32 (v1 : Int), .int .i64 t, .int .i64 inh, .int .i64 ev, .slice A n c] ∧ v1 < 4294967296 ∧ RW w w.heap.size A n c ws ∧ (∀ x ∈ ws, x < 4294967296) ∧ (Lit.int .i64 t).wf = true ∧ (Lit.int .i64 inh).wf = true ∧ (Lit.int .i64 ev).wf = true := by
  obtain ⟨cs, rfl, hsz⟩ := okWide_struct Tryz.underlying26 hv
  obtain ⟨fuel, hf⟩ := h
  have hf' : DataW.trod enc Tryz.prog w 0 spare held fuel 26 cs.toList = some (d, p) := by simpa [Value.cells] using hf
  obtain ⟨v1, t, inh, ev, A, n, c, ws, e, h1, h2, h3, h4⟩ := cells_tconfig hf'
  refine ⟨v1, t, inh, ev, A, n, c, ws, ?_, h1, h2, h3, h4⟩
  rw [← Array.toArray_toList (xs := cs), e]
theorem cells_top {fuel : Nat} {cs : List Value} {x : DataW H × List MemPlace} (h : DataW.trod enc Tryz.prog w 0 spare held fuel 51 cs = some x) : ∃ f, TOpC w w.heap.size f cs := by
  have h3 : cs.length = 4 := trod_len Tryz.underlying51 h (by kernel_rfl)
  match cs, h3 with
  | [a, b, d, e], _ =>
    obtain ⟨_, _, t0⟩ := trod_one Tryz.underlying51 h 0 3 0 a rfl (by kernel_rfl) rfl
    obtain ⟨_, _, t1⟩ := trod_one Tryz.underlying51 h 1 3 1 b rfl (by kernel_rfl) rfl
    obtain ⟨_, _, t2⟩ := trod_one Tryz.underlying51 h 2 3 2 d rfl (by kernel_rfl) rfl
    obtain ⟨_, _, t3⟩ := trod_one Tryz.underlying51 h 3 49 3 e rfl (by kernel_rfl) rfl
    obtain ⟨i, rfl, _⟩ := cell_int Tryz.underlying3 t0
    obtain ⟨j, rfl, _⟩ := cell_int Tryz.underlying3 t1
    obtain ⟨k, rfl, _⟩ := cell_int Tryz.underlying3 t2
    obtain ⟨A, n, c, l, rfl, hr⟩ := cell_bytes Tryz.underlying49 Tryz.underlying5 (by kernel_rfl) t3
    exact ⟨⟨i, j, k, l⟩, A, n, c, rfl, hr⟩
set_option maxRecDepth 100000 in
theorem open_case32 {r : Reach} {b0 : Nat} {v : Value} {d : DataW H} {p : List MemPlace} (hv : Value.okWide Tryz.prog w r b0 29 v) (h : DataW.Trod enc Tryz.prog w 0 spare held 29 v d p) :
    ∃ (A0 A1 A2 : Option Addr) (n0 c0 n1 c1 n2 c2 v1 : Nat) (t inh ev : Int) (es : List Ent.En) (ws : List Nat) (ops : List TOp), v = .agg #[.slice A0 n0 c0, .int .u32 (v1 : Int), .int .i64 t, .int .i64 inh, .int .i64 ev, .slice A1 n1 c1, .slice A2 n2 c2] ∧
      REn w w.heap.size w.heap.size A0 n0 c0 es ∧ (∀ e ∈ es, e.name.length ≤ 9223372036854775807) ∧ v1 < 4294967296 ∧ RW w w.heap.size A1 n1 c1 ws ∧ (∀ x ∈ ws, x < 4294967296) ∧ ((Lit.int .i64 t).wf = true ∧ (Lit.int .i64 inh).wf = true ∧ (Lit.int .i64 ev).wf = true) ∧ TOps w w.heap.size w.heap.size A2 n2 c2 ops := by
  obtain ⟨cs, rfl, hsz⟩ := okWide_struct Tryz.underlying29 hv
  obtain ⟨fuel, hf⟩ := h
  have hf' : DataW.trod enc Tryz.prog w 0 spare held fuel 29 cs.toList = some (d, p) := by simpa [Value.cells] using hf
  have h3 : cs.toList.length = 7 := trod_len Tryz.underlying29 hf' (by kernel_rfl)
  obtain ⟨l, hl⟩ : ∃ l, l = cs.toList := ⟨_, rfl⟩
  rw [← hl] at h3 hf'
  match l, h3 with
  | [a, b1, b2, b3, b4, b5, e], _ =>
    obtain ⟨_, _, t0⟩ := trod_one Tryz.underlying29 hf' 0 22 0 a rfl (by kernel_rfl) rfl
    obtain ⟨_, _, t1⟩ := trod_part Tryz.underlying29 hf' 1 26 1 5 rfl (by kernel_rfl)
    obtain ⟨_, _, t2⟩ := trod_one Tryz.underlying29 hf' 2 27 6 e rfl (by kernel_rfl) rfl
    obtain ⟨A0, n0, c0, es, rfl, r0, r0'⟩ := cell_entries t0
    obtain ⟨v1, t, inh, ev, A1, n1, c1, ws, e1, h1, r1, r1', wt⟩ := cells_tconfig t1
    obtain ⟨A2, n2, c2, rfl⟩ := cell_slice Tryz.underlying27 t2
    obtain ⟨ops, xs, hlo, o1, o2⟩ := open_rows (TOpC w w.heap.size) Tryz.underlying27 (show Tryz.prog.cellsOf 51 = 4 by kernel_rfl) (by decide) (fun _ _ _ h => cells_top h) t2
    have e2 : [b1, b2, b3, b4, b5] = [.int .u32 (v1 : Int), .int .i64 t, .int .i64 inh, .int .i64 ev, .slice A1 n1 c1] := e1
    injection e2 with e3 e4
    injection e4 with e4 e5
    injection e5 with e5 e6
    injection e6 with e6 e7
    injection e7 with e7 _
    subst e3 e4 e5 e6 e7
    refine ⟨A0, A1, A2, n0, c0, n1, c1, n2, c2, v1, t, inh, ev, es, ws, ops, ?_, r0, r0', h1, r1, r1', wt, ⟨xs, o1, o2⟩⟩
    rw [← Array.toArray_toList (xs := cs), ← hl]
end
set_option maxRecDepth 100000 in
set_option maxHeartbeats 1000000 in
theorem given32_any (v : Nat) (t inh ev : Int) (A : Option Addr) (n c : Nat) (w : World) : Calls Tryz.prog 8 #[.agg #[.int .u32 (v : Int), .int .i64 t, .int .i64 inh, .int .i64 ev, .slice A n c]] w fun e w' => e = .returned (.agg #[.int .u32 (v : Int), .int .i64 t, .int .i64 inh, .int .i64 ev, .slice A n c]) ∧ Below w.heap.size w w' := by
  have b0 := alloc_two w (.cells #[.int .u32 (v : Int), .int .i64 t, .int .i64 inh, .int .i64 ev, .slice A n c] 26) (.cells #[.int .u32 0, .int .i64 0, .int .i64 0, .int .i64 0, .slice none 0 0] 39)
  have KF := ((Blk.new w 26 #[.int .u32 (v : Int), .int .i64 t, .int .i64 inh, .int .i64 ev, .slice A n c]).alloc (.cells #[.int .u32 0, .int .i64 0, .int .i64 0, .int .i64 0, .slice none 0 0] 39)).fiv
  have KO := Blk.new (w.alloc (.cells #[.int .u32 (v : Int), .int .i64 t, .int .i64 inh, .int .i64 ev, .slice A n c] 26)) 39 #[.int .u32 0, .int .i64 0, .int .i64 0, .int .i64 0, .slice none 0 0]
  rw [World.size_alloc] at KO
  have FO := KO.fiv
  go_enter Tryz.func8, Tryz.ntmps8
  go_wp2_with fail
  have R0 := Blk.new (w.alloc (.cells #[.int .u32 (v : Int), .int .i64 t, .int .i64 inh, .int .i64 ev, .slice A n c] 26)) 39 #[.int .u32 (v : Int), .int .i64 t, .int .i64 inh, .int .i64 ev, .slice A n c]
  rw [World.size_alloc] at R0
  have R := R0.fiv
  exact bodyPost_ret (v := .agg #[.int .u32 (v : Int), .int .i64 t, .int .i64 inh, .int .i64 ev, .slice A n c]) (by simp [results, Tryz.results8, go_sem, R]) rfl ⟨rfl, alloc_two _ _ _⟩
end Go.Proofs.YtbmocffnnlfnjaaGreat
/-
  Walk: light of the statements of layer 32.
  Conditions: none.
-/
namespace Go.Proofs.YtbmocffnnlfnjaaGreat
set_option linter.unusedVariables false
set_option linter.unusedSimpArgs false
open Go.RowKit
def Light32P (n0 n1 n2 : Nat) (es : List Ent.En) (ops : List TOp) (w : World) (e : Ending) (w' : World) : Prop := ∃ b : Bool, e = .returned (.bool b) ∧ Below w.heap.size w w' ∧ (b = true → n0 ≤ 200 ∧ (∀ e ∈ es, e.name.length ≤ 1000 ∧ e.dflt.length ≤ 1000) ∧ n1 ≤ 100 ∧ ∀ i, i < n2 → i < 100 → (ops.getD i top0).data.length ≤ 1000)
theorem light32_no {n0 n1 n2 : Nat} {es : List Ent.En} {ops : List TOp} {w w' : World} (hb : Below w.heap.size w w') : Light32P n0 n1 n2 es ops w (.returned (.bool false)) w' := ⟨false, rfl, hb, fun h => by cases h⟩
theorem light32_yes {n0 n1 n2 : Nat} {es : List Ent.En} {ops : List TOp} {w w' : World} (hb : Below w.heap.size w w') (h : n0 ≤ 200 ∧ (∀ e ∈ es, e.name.length ≤ 1000 ∧ e.dflt.length ≤ 1000) ∧ n1 ≤ 100 ∧ ∀ i, i < n2 → i < 100 → (ops.getD i top0).data.length ≤ 1000) : Light32P n0 n1 n2 es ops w (.returned (.bool true)) w' := ⟨true, rfl, hb, fun _ => h⟩
set_option maxRecDepth 100000 in
set_option maxHeartbeats 2000000 in
theorem light32_any {A0 A1 A2 : Option Addr} {n0 c0 n1 c1 n2 c2 B : Nat} {es : List Ent.En} {ops : List TOp} (v : Nat) (t inh ev : Int) (w : World) (h0 : REn w B B A0 n0 c0 es) (hnm : ∀ e ∈ es, e.name.length ≤ 9223372036854775807) (h2 : TOps w B B A2 n2 c2 ops) (hB : B ≤ w.heap.size) :
    Calls Tryz.prog 4 #[.agg #[.slice A0 n0 c0, .int .u32 (v : Int), .int .i64 t, .int .i64 inh, .int .i64 ev, .slice A1 n1 c1, .slice A2 n2 c2]] w (Light32P n0 n1 n2 es ops w) := by
  have b0 := alloc_one w (.cells #[.slice A0 n0 c0, .int .u32 (v : Int), .int .i64 t, .int .i64 inh, .int .i64 ev, .slice A1 n1 c1, .slice A2 n2 c2] 29)
  have K := Blk.new w 29 #[.slice A0 n0 c0, .int .u32 (v : Int), .int .i64 t, .int .i64 inh, .int .i64 ev, .slice A1 n1 c1, .slice A2 n2 c2]
  have K0 := K.cell 0
  have K5 : (w.alloc (.cells #[.slice A0 n0 c0, .int .u32 (v : Int), .int .i64 t, .int .i64 inh, .int .i64 ev, .slice A1 n1 c1, .slice A2 n2 c2] 29)).cell? ⟨w.heap.size, 5, none⟩ = some (.slice A1 n1 c1) := K.cell 5
  have K6 : (w.alloc (.cells #[.slice A0 n0 c0, .int .u32 (v : Int), .int .i64 t, .int .i64 inh, .int .i64 ev, .slice A1 n1 c1, .slice A2 n2 c2] 29)).cell? ⟨w.heap.size, 6, none⟩ = some (.slice A2 n2 c2) := K.cell 6
  have L15 := Lib.hid (Light15_any _ (h0.below (b0.mono hB) (Nat.le_refl _)) hnm)
  have h2' := h2.below (b0.mono hB) (Nat.le_refl _)
  have hl := h2.len
  have hn := h2.lt
  go_enter Tryz.func4, Tryz.ntmps4
  go_wp2_with fail
  refine (L15.out).mono ?_
  rintro e _ ⟨bl, rfl, rfl, hbl⟩
  cases bl
  · clear hbl
    go_wp2_with fail
    go_ret
    exact light32_no b0
  · obtain ⟨hes0, hes⟩ := hbl rfl
    clear hbl
    by_cases h100 : 100 < n1
    · go_wp2_with fail
      go_ret
      exact light32_no b0
    · have HES := Lib.hid (show n0 ≤ 200 ∧ (∀ e ∈ es, e.name.length ≤ 1000 ∧ e.dflt.length ≤ 1000) ∧ n1 ≤ 100 from ⟨hes0, hes, by omega⟩)
      clear hes hes0 hnm h0 h2 L15
      generalize w.alloc (.cells #[.slice A0 n0 c0, .int .u32 (v : Int), .int .i64 t, .int .i64 inh, .int .i64 ev, .slice A1 n1 c1, .slice A2 n2 c2] 29) = w1 at *
      go_wp2_with fail
      go_loop [3] (fun i => ∃ k : Nat, k ≤ n2 ∧ k ≤ 100 ∧ i = .int .i64 k ∧ ∀ j, j < k → (ops.getD j top0).data.length ≤ 1000) (fun i => n2 - (intOf i).toNat)
      case atStart => exact ⟨0, by omega, by omega, rfl, fun _ h => absurd h (by omega)⟩
      case round =>
        obtain ⟨k, hk, hk6, rfl, hall⟩ := hrel
        have HALL := Lib.hid hall; clear hall
        by_cases hlt : k < n2
        · by_cases h60 : k < 100
          · obtain ⟨b, o, A', n', c', rfl, hbB, q0, q1, q2, q3, hr⟩ := h2'.at_ hlt
            have hrl := hr.len
            have HJ := Lib.hid (fun (h2 : n' ≤ 1000) (j : Nat) (hj : j < k + 1) => show (ops.getD j top0).data.length ≤ 1000 from by
              rcases Nat.lt_or_ge j k with h | h
              · exact HALL.out j h
              · obtain rfl : j = k := by omega
                rw [hrl]; exact h2)
            clear q0 q1 q2 hr hrl
            by_cases hbig : 1000 < n'
            · go_wp2_with fail
              go_ret
              exact light32_no b0
            · go_wp2_with fail
              go_round
              case rel => exact ⟨k + 1, by omega, by omega, by go_num, HJ.out (by omega)⟩
              case measure => simp [intOf] <;> omega
          · go_wp2_with fail
            go_ret
            exact light32_yes b0 ⟨HES.out.1, HES.out.2.1, HES.out.2.2, fun i h1 h2 => HALL.out i (by omega)⟩
        · obtain rfl : k = n2 := by omega
          go_wp2_with fail
          go_ret
          exact light32_yes b0 ⟨HES.out.1, HES.out.2.1, HES.out.2.2, fun i h1 h2 => HALL.out i h1⟩
end Go.Proofs.YtbmocffnnlfnjaaGreat
