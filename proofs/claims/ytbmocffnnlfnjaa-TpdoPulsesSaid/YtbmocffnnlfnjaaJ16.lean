/-
  Texts joined: TpdTl, CellWords, TpdKnown, TpdOpen, TpdNil.
  Conditions: none.
-/
import Derived.Test.YtbmocffnnlfnjaaJ08
import Derived.Test.YtbmocffnnlfnjaaJ10
import Derived.Test.YtbmocffnnlfnjaaJ11
import Derived.Test.YtbmocffnnlfnjaaJ12
import Derived.Test.YtbmocffnnlfnjaaJ13
import Derived.Test.YtbmocffnnlfnjaaJ15
import Derived.KernelRfl
/-
  A PDO of the program beside its dictionary: what its calls send, and that both are there again.
  Conditions: none.
-/
namespace Go.Proofs.Ytbmocffnnlfnjaa.Tp
set_option linter.unusedVariables false
set_option linter.unusedSimpArgs false
/-- A state that can be. -/
structure Ok (t inh ev : Int) (s : St) : Prop where
  kind : kindB t inh ev = true
  hold : 0 ≤ s.hold ∧ s.hold ≤ 65535
  left : 0 ≤ s.left ∧ s.left ≤ 65535
  count : 0 ≤ s.count ∧ s.count ≤ 1000
section
variable {t inh ev : Int} {s : St}
theorem Ok.rest (h : kindB t inh ev = true) : Ok t inh ev (restS ev) := ⟨h, by unfold restS; constructor <;> dsimp only <;> omega, (kind_parts h).2.2, by unfold restS; constructor <;> dsimp only <;> omega⟩
theorem Ok.sent (h : Ok t inh ev s) : Ok t inh ev (sentS inh ev s) := ⟨h.kind, (kind_parts h.kind).2.1, (kind_parts h.kind).2.2, h.count⟩
theorem Ok.trig (h : Ok t inh ev s) : Ok t inh ev (trigS t s).2 := by
  unfold trigS
  repeat' split
  all_goals exact ⟨h.kind, h.hold, h.left, h.count⟩
theorem Ok.tick (h : Ok t inh ev s) : Ok t inh ev (tickS t s).2 := by
  have h1 := h.hold
  have h2 := h.left
  unfold tickS downS
  split
  · refine ⟨h.kind, ?_, ?_, h.count⟩
    · dsimp only
      split <;> omega
    · dsimp only
      split <;> omega
  · exact h
theorem Ok.pulse (h : Ok t inh ev s) : Ok t inh ev (pulseS t s).2 := by
  have h1 := h.count
  have h2 := (kind_parts h.kind).1
  unfold pulseS
  split
  · exact h
  · split
    · exact h
    · split
      · exact ⟨h.kind, h.hold, h.left, by dsimp only; omega⟩
      · exact ⟨h.kind, h.hold, h.left, by dsimp only; omega⟩
end
end Go.Proofs.Ytbmocffnnlfnjaa.Tp
namespace Go.Proofs.Ytbmocffnnlfnjaa
set_option linter.unusedVariables false
set_option linter.unusedSimpArgs false
open Go.RowKit Go.Sort
theorem OV.mvk {w w' : World} {G : Nat → Prop} {base e size n c : Nat} {A : Option Addr} {xs : List Value} (h : OV w base e size A n c xs) (hm : Mv G w w') (hG : ∀ k, (Value.slice A n c).ownBlock = some k → ¬ G k) : OV w' base e size A n c xs := by
  refine ⟨h.1, ?_⟩
  rcases h.2 with h2 | ⟨k, cap, cur, hv, hg, hh, r⟩
  · exact .inl h2
  · exact .inr ⟨k, cap, cur, hv, hg, (hm.block k (Array.getElem?_eq_some_iff.1 hh).1 (hG k (by rw [hv]; rfl))).trans hh, r⟩
theorem OS.lowk {w w' : World} {G : Nat → Prop} {base n c : Nat} {A : Option Addr} {l : List Can.Fr} (h : OS (FrW w base) w base 56 3 A n c l) (hm : Mv G w w') (hG : ∀ q, G q → q < base) : OS (FrW w' base) w' base 56 3 A n c l := by
  obtain ⟨xs, k1, k2⟩ := h
  refine ⟨xs, k1.mvk hm fun k hk e => by have := (k1.lt k hk).1; have := hG k e; omega, k2.imp fun f cs hf => ?_⟩
  obtain ⟨A, n, c, e1, e2⟩ := hf
  exact ⟨A, n, c, e1, OV.mvk (show OV _ _ _ _ _ _ _ _ from e2) hm fun k hk e => by have := (OB.lt e2 k hk).1; have := hG k e; omega⟩
/-- A PDO and its dictionary; all their blocks are Fp's. -/
structure Tl (w : World) (Fp : Nat → Prop) (p gd v : Nat) (t inh ev : Int) (ws : List Nat) (s : Tp.St) (D : Dc.Dic) : Prop where
  ex : ∃ (F : Nat → Prop) (gv lc vc : Nat) (la : Addr) (vA : Option Addr) (xs vs : List Value) (Aw : Option Addr) (cw : Nat), DRt 62 w F gd gv (some la) lc vA vc xs vs D ∧ TpM w 0 p gd v t inh ev ws Aw cw s ∧ (∀ q, F q → Fp q ∧ q ≠ p ∧ (Value.slice Aw ws.length cw).ownBlock ≠ some q) ∧ Fp p ∧ ∀ k, (Value.slice Aw ws.length cw).ownBlock = some k → Fp k
  fine : Dc.Fine D
  dflt : ∀ e ∈ D.l, e.dflt.length ≤ 1000000
  words : ∀ x ∈ ws, x < 4294967296
  ok : Tp.Ok t inh ev s
theorem Dc.Fine.small {D : Dc.Dic} (h : Dc.Fine D) : ∀ v ∈ D.v, v.length ≤ 1000000 := fun v hv => by have := h.sm v hv; omega
section
variable {w w' : World} {Fp G : Nat → Prop} {p gd v : Nat} {t inh ev : Int} {ws : List Nat} {s : Tp.St} {D : Dc.Dic}
theorem TpM.mvk {base g gd v : Nat} {Aw : Option Addr} {cw : Nat} (h : TpM w base g gd v t inh ev ws Aw cw s) (hm : Mv G w w') (hg : ¬ G g) (hk : ∀ k, (Value.slice Aw ws.length cw).ownBlock = some k → ¬ G k) : TpM w' base g gd v t inh ev ws Aw cw s := ⟨h.gb, h.blk.mv hm hg, OV.mvk h.words hm hk⟩
theorem TpM.zero {base g gd v : Nat} {Aw : Option Addr} {cw : Nat} (h : TpM w base g gd v t inh ev ws Aw cw s) : TpM w 0 g gd v t inh ev ws Aw cw s := ⟨Nat.zero_le _, h.blk, OV.more h.words (Nat.zero_le _)⟩
theorem Tl.lt (h : Tl w Fp p gd v t inh ev ws s D) : Fp p ∧ p < w.heap.size := by
  obtain ⟨F, gv, lc, vc, la, vA, xs, vs, Aw, cw, hd, hp, h1, h2, h3⟩ := h.ex
  exact ⟨h2, hp.blk.lt⟩
theorem Tl.mv (h : Tl w Fp p gd v t inh ev ws s D) (hm : Mv G w w') (hd : ∀ b, b < w.heap.size → Fp b → ¬ G b) : Tl w' Fp p gd v t inh ev ws s D := by
  obtain ⟨F, gv, lc, vc, la, vA, xs, vs, Aw, cw, hr, hp, h1, h2, h3⟩ := h.ex
  exact ⟨⟨F, gv, lc, vc, la, vA, xs, vs, Aw, cw, hr.mv hm fun b hb hf => hd b hb (h1 b hf).1, hp.mvk hm (hd p hp.blk.lt h2) fun k hk => hd k (OV.lt hp.words k hk).2 (h3 k hk), h1, h2, h3⟩, h.fine, h.dflt, h.words, h.ok⟩
theorem Tl.below (h : Tl w Fp p gd v t inh ev ws s D) (hb : Below w.heap.size w w') : Tl w' Fp p gd v t inh ev ws s D := h.mv (Mv.of_new hb fun _ => False) fun _ _ _ h => h
theorem Tl.mono (h : Tl w Fp p gd v t inh ev ws s D) (hi : ∀ q, q < w.heap.size → Fp q → G q) : Tl w G p gd v t inh ev ws s D := by
  obtain ⟨F, gv, lc, vc, la, vA, xs, vs, Aw, cw, hr, hp, h1, h2, h3⟩ := h.ex
  exact ⟨⟨fun q => F q ∧ q < w.heap.size, gv, lc, vc, la, vA, xs, vs, Aw, cw, hr.cut, hp, fun q hq => ⟨hi q hq.2 (h1 q hq.1).1, (h1 q hq.1).2⟩, hi p hp.blk.lt h2, fun k hk => hi k (OV.lt hp.words k hk).2 (h3 k hk)⟩, h.fine, h.dflt, h.words, h.ok⟩
/-- What a call sends, and both behind it. -/
def TlOut (l : List Can.Fr) (Fp : Nat → Prop) (p gd v : Nat) (t inh ev : Int) (ws : List Nat) (s : Tp.St) (D : Dc.Dic) (w : World) (e : Ending) (w' : World) : Prop :=
  ∃ A c, e = .returned (.slice A l.length c) ∧ OS (FrW w' w.heap.size) w' w.heap.size 56 3 A l.length c l ∧ Mv (fun q => q = p) w w' ∧ Tl w' Fp p gd v t inh ev ws s D
theorem Tl.out {l : List Can.Fr} {s' : Tp.St} {gv lc vc : Nat} {la : Addr} {vA : Option Addr} {xs vs : List Value} {F : Nat → Prop} {Aw : Option Addr} {cw : Nat} {e : Ending} (h : Tl w Fp p gd v t inh ev ws s D) (hd : DRt 62 w F gd gv (some la) lc vA vc xs vs D) (h1 : ∀ q, F q → Fp q ∧ q ≠ p ∧ (Value.slice Aw ws.length cw).ownBlock ≠ some q) (h2 : Fp p) (h3 : ∀ k, (Value.slice Aw ws.length cw).ownBlock = some k → Fp k)
    (hs : SendP l 0 p gd v t inh ev ws Aw cw s' w e w') (ho : Tp.Ok t inh ev s') : TlOut l Fp p gd v t inh ev ws s' D w e w' := by
  obtain ⟨A, c, he, o, hm, ht⟩ := hs
  exact ⟨A, c, he, o, hm, ⟨F, gv, lc, vc, la, vA, xs, vs, Aw, cw, hd.mv hm fun b _ hf e => (h1 b hf).2.1 e, ht, h1, h2, h3⟩, h.fine, h.dflt, h.words, ho⟩
theorem stT_ok {x : Bool × Tp.St} (h : Tp.Ok t inh ev x.2) : Tp.Ok t inh ev (stT inh ev x) := by
  unfold stT
  split
  · exact h.sent
  · exact h
theorem Tl.trigger (h : Tl w Fp p gd v t inh ev ws s D) : Calls Try.prog 12 #[.pointer (some ⟨p, 0, none⟩)] w (TlOut (outT v (Tp.bytesS D v ws) (Tp.trigS t s)) Fp p gd v t inh ev ws (stT inh ev (Tp.trigS t s)) D w) := by
  obtain ⟨F, gv, lc, vc, la, vA, xs, vs, Aw, cw, hr, hp, h1, h2, h3⟩ := h.ex
  exact (Trigger_any hp hr (fun q hq => (h1 q hq).2.1) h.dflt h.fine.small h.words).mono fun e w' hs => h.out hr h1 h2 h3 hs (stT_ok h.ok.trig)
theorem Tl.tick (h : Tl w Fp p gd v t inh ev ws s D) : Calls Try.prog 13 #[.pointer (some ⟨p, 0, none⟩)] w (TlOut (outT v (Tp.bytesS D v ws) (Tp.tickS t s)) Fp p gd v t inh ev ws (stT inh ev (Tp.tickS t s)) D w) := by
  obtain ⟨F, gv, lc, vc, la, vA, xs, vs, Aw, cw, hr, hp, h1, h2, h3⟩ := h.ex
  exact (TTick_any hp h.ok.hold h.ok.left hr (fun q hq => (h1 q hq).2.1) h.dflt h.fine.small h.words).mono fun e w' hs => h.out hr h1 h2 h3 hs (stT_ok h.ok.tick)
theorem Tl.pulse (h : Tl w Fp p gd v t inh ev ws s D) : Calls Try.prog 14 #[.pointer (some ⟨p, 0, none⟩)] w (TlOut (outT v (Tp.bytesS D v ws) (Tp.pulseS t s)) Fp p gd v t inh ev ws (stT inh ev (Tp.pulseS t s)) D w) := by
  obtain ⟨F, gv, lc, vc, la, vA, xs, vs, Aw, cw, hr, hp, h1, h2, h3⟩ := h.ex
  exact (TPulse_any hp h.ok.count hr (fun q hq => (h1 q hq).2.1) h.dflt h.fine.small h.words).mono fun e w' hs => h.out hr h1 h2 h3 hs (stT_ok h.ok.pulse)
theorem Tl.rest (h : Tl w Fp p gd v t inh ev ws s D) : Calls Try.prog 15 #[.pointer (some ⟨p, 0, none⟩)] w fun e w' => e = .returned (.tuple #[]) ∧ Mv (fun q => q = p) w w' ∧ Tl w' Fp p gd v t inh ev ws (Tp.restS ev) D := by
  obtain ⟨F, gv, lc, vc, la, vA, xs, vs, Aw, cw, hr, hp, h1, h2, h3⟩ := h.ex
  refine (Rest_any hp).mono ?_
  rintro e w' ⟨he, hm, ht⟩
  exact ⟨he, hm, ⟨F, gv, lc, vc, la, vA, xs, vs, Aw, cw, hr.mv hm fun b _ hf e => (h1 b hf).2.1 e, ht, h1, h2, h3⟩, h.fine, h.dflt, h.words, Tp.Ok.rest h.ok.kind⟩
theorem Tl.id (h : Tl w Fp p gd v t inh ev ws s D) : Calls Try.prog 11 #[.pointer (some ⟨p, 0, none⟩)] w fun e w' => e = .returned (.int .i64 (Cob.pdo v : Int)) ∧ w = w' := by
  obtain ⟨F, gv, lc, vc, la, vA, xs, vs, Aw, cw, hr, hp, h1, h2, h3⟩ := h.ex
  exact TpId_any hp
theorem Tl.has (h : Tl w Fp p gd v t inh ev ws s D) (i j : Int) : Calls Try.prog 16 #[.pointer (some ⟨p, 0, none⟩), .int .i64 i, .int .i64 j] w fun e w' => e = .returned (.bool (Tp.hasS ws i j)) ∧ w = w' := by
  obtain ⟨F, gv, lc, vc, la, vA, xs, vs, Aw, cw, hr, hp, h1, h2, h3⟩ := h.ex
  exact THas_any hp h.words i j
theorem Tl.poke (h : Tl w Fp p gd v t inh ev ws s D) (x y : Int) {A : Option Addr} {n c B : Nat} {b : List UInt8} (hb : RB w B A n c b) (hB : B ≤ w.heap.size) (hn : n ≤ 1000) :
    Calls Try.prog 17 #[.pointer (some ⟨gd, 0, none⟩), .int .i64 x, .int .i64 y, .slice A n c] w fun e w' => e = .returned (.int .u32 (Dc.mayS D.l true x y b)) ∧ Mv Fp w w' ∧ Tl w' (fun q => Fp q ∨ (w.heap.size ≤ q ∧ q < w'.heap.size)) p gd v t inh ev ws s (Dc.pokeS D x y b) := by
  obtain ⟨F, gv, lc, vc, la, vA, xs, vs, Aw, cw, hr, hp, h1, h2, h3⟩ := h.ex
  have hpl := hp.blk.lt
  have hwl := OV.lt hp.words
  have hbl := hb.len
  refine (One.poke (base := 0) (F := fun q => F q ∧ q < w.heap.size) ⟨gv, lc, vc, la, vA, xs, vs, hr.cut, fun q hq => ⟨Nat.zero_le _, hq.2⟩⟩ (Nat.zero_le _) x y hb hB (by omega)).mono ?_
  rintro e w' ⟨he, hm, _, gv', lc', vc', la', vA', xs', vs', hd, _⟩
  have hfl := Dc.poke_l D x y b
  refine ⟨he, hm.mono fun q _ hq => (h1 q hq.1).1, ⟨_, gv', lc', vc', la', vA', xs', vs', Aw, cw, hd, hp.mvk hm (fun e => (h1 p e.1).2.1 rfl) (fun k hk e => (h1 k e.1).2.2 hk), fun q hq => ?_, .inl h2, fun k hk => .inl (h3 k hk)⟩, h.fine.poke x y (by omega), by rw [hfl]; exact h.dflt, h.words, h.ok⟩
  rcases hq with hq | hq
  · exact ⟨.inl (h1 q hq.1).1, (h1 q hq.1).2⟩
  · exact ⟨.inr hq, by omega, fun hk => by have := (hwl q hk).2; omega⟩
/-- A PDO that was made. -/
theorem Tl.new {F : Nat → Prop} {gv lc vc : Nat} {la : Addr} {vA : Option Addr} {xs vs : List Value} {Aw : Option Addr} {cw : Nat} (hd : DRt 62 w F gd gv (some la) lc vA vc xs vs D) (hF : ∀ q, F q → q < w.heap.size) (hb : Below w.heap.size w w') (hp : TpM w' w.heap.size p gd v t inh ev ws Aw cw s) (hf : Dc.Fine D) (hl : ∀ e ∈ D.l, e.dflt.length ≤ 1000000) (hwl : ∀ x ∈ ws, x < 4294967296) (ho : Tp.Ok t inh ev s) :
    Tl w' (fun q => F q ∨ (w.heap.size ≤ q ∧ q < w'.heap.size)) p gd v t inh ev ws s D := by
  have hpl := hp.blk.lt
  have hpg := hp.gb
  have hwk := OV.lt hp.words
  exact ⟨⟨F, gv, lc, vc, la, vA, xs, vs, Aw, cw, hd.below hb, hp.zero, fun q hq => ⟨.inl hq, by have := hF q hq; omega, fun hk => by have := (hwk q hk).1; have := hF q hq; omega⟩, .inr ⟨hpg, hpl⟩, fun k hk => .inr (hwk k hk)⟩, hf, hl, hwl, ho⟩
end
end Go.Proofs.Ytbmocffnnlfnjaa
/-
  Words as a slice's cell, in an argument.
  Conditions: none.
-/
namespace Go.Proofs.Ytbmocffnnlfnjaa
set_option linter.unusedVariables false
set_option linter.unusedSimpArgs false
open Go.ChangeShapes Go.WideShapes Go.ChangeAt Go.RowKit
section
variable {H : Type} {enc : TypeId × Value → H} {w : World} {spare : Nat → Bool} {held : Bool}
set_option maxRecDepth 100000 in
theorem cell_words {fuel : Nat} {v : Value} {x : DataW H × List MemPlace} (h : DataW.trod enc Try.prog w 0 spare held fuel 24 [v] = some x) :
    ∃ (A : Option Addr) (n c : Nat) (ws : List Nat), v = .slice A n c ∧ RW w w.heap.size A n c ws ∧ ∀ x ∈ ws, x < 4294967296 := by
  obtain ⟨A, n, c, rfl⟩ := cell_slice Try.underlying24 h
  obtain ⟨ws, xs, hl, h1, h2⟩ := open_rows (fun (x : Nat) cs => cs = [.int .u32 (x : Int)] ∧ x < 4294967296) Try.underlying24 (show Try.prog.cellsOf 23 = 1 by kernel_rfl) (by decide) (fun _ cs _ h => by
    have h3 : cs.length = 1 := (DataW.trod_int Try.underlying23 h).elim fun z hz => by rw [hz.1]; rfl
    match cs, h3 with
    | [a], _ =>
      obtain ⟨i, rfl, hw⟩ := cell_int Try.underlying23 h
      obtain ⟨b1, b2⟩ := bounds_u32 hw
      obtain ⟨m, rfl⟩ := Int.eq_ofNat_of_zero_le b1
      exact ⟨m, rfl, by omega⟩) h
  have e : xs = ws.map fun (x : Nat) => Value.int .u32 (x : Int) := by
    apply List.ext_getElem?
    intro i
    have hx := h2.len
    rw [List.getElem?_map]
    by_cases hi : i < ws.length
    · have := (h2.2 i _ (List.getElem?_eq_getElem hi)).1
      have e0 : ((xs.drop (i * 1)).take 1)[0]? = xs[i]? := by rw [List.getElem?_take, List.getElem?_drop]; simp
      rw [this] at e0
      simp [List.getElem?_eq_getElem hi, ← e0]
    · rw [List.getElem?_eq_none (by omega), List.getElem?_eq_none (by omega)]; rfl
  subst e
  refine ⟨A, n, c, ws, rfl, h1, fun x hm => ?_⟩
  obtain ⟨i, hi, rfl⟩ := List.getElem_of_mem hm
  exact (h2.2 i _ (List.getElem?_eq_getElem hi)).2
end
theorem RW.lit (w : World) (ws : List Nat) (cs : List Value) (n : Nat) (hc : cs = ws.map fun (x : Nat) => Value.int .u32 (x : Int)) (hn : ws.length = n) (hm : n ≤ 9223372036854775807) : RW (w.alloc (.cells cs.toArray 23)) (w.heap.size + 1) (some ⟨w.heap.size, 0, none⟩) n n ws := by
  subst hc
  exact RV.lit w 23 n (size := 1) (by simp [hn]) hm
end Go.Proofs.Ytbmocffnnlfnjaa
/-
  Walk: 'known' of the statements of layer 32.
  Conditions: none.
-/
namespace Go.Proofs.Ytbmocffnnlfnjaa
set_option linter.unusedVariables false
set_option linter.unusedSimpArgs false
open Go.RowKit
def ka32 : Ent.En := ⟨24576, 1, [97], 5, 4, true, false, 0, 0, 9, [5]⟩
theorem k32new : Dc.newS [ka32] = (0, 0) := by kernel_rfl
theorem k32chk : Tp.checkS [ka32] 389 255 2 0 [1610613000] = 0 := by kernel_rfl
theorem k32id : (Cob.pdo 389 : Int) = 389 := by kernel_rfl
theorem k32b : Tp.bytesS ⟨[ka32], [ka32].map (·.dflt)⟩ 389 [1610613000] = some [5] := by kernel_rfl
theorem k32o1 : outT 389 (some [5]) (Tp.trigS 255 (Tp.restS 0)) = [⟨389, false, [5]⟩] := by kernel_rfl
theorem k32s1 : stT 2 0 (Tp.trigS 255 (Tp.restS 0)) = ⟨false, 2, 0, 0⟩ := by kernel_rfl
theorem k32o2 : outT 389 (some [5]) (Tp.trigS 255 ⟨false, 2, 0, 0⟩) = [] := by kernel_rfl
theorem k32s2 : stT 2 0 (Tp.trigS 255 ⟨false, 2, 0, 0⟩) = ⟨true, 2, 0, 0⟩ := by kernel_rfl
theorem k32o3 : outT 389 (some [5]) (Tp.tickS 255 ⟨true, 2, 0, 0⟩) = [] := by kernel_rfl
theorem k32s3 : stT 2 0 (Tp.tickS 255 ⟨true, 2, 0, 0⟩) = ⟨true, 1, 0, 0⟩ := by kernel_rfl
theorem k32o4 : outT 389 (some [5]) (Tp.tickS 255 ⟨true, 1, 0, 0⟩) = [⟨389, false, [5]⟩] := by kernel_rfl
theorem k32s4 : stT 2 0 (Tp.tickS 255 ⟨true, 1, 0, 0⟩) = ⟨false, 2, 0, 0⟩ := by kernel_rfl
theorem k32h1 : Tp.hasS [1610613000] 24576 1 = true := by kernel_rfl
theorem k32h2 : Tp.hasS [1610613000] 24576 0 = false := by kernel_rfl
theorem k32entries (w : World) : REn ((w.alloc (.cells #[.int .u8 5] 5)).alloc
    (.cells #[.int .i64 24576, .int .i64 1, .string (T [97]), .int .i64 5, .int .i64 4, .bool true, .bool false, .int .i64 0, .int .i64 0, .int .i64 9, .slice (some ⟨w.heap.size, 0, none⟩) 1 1] 59))
    (w.heap.size + 1 + 1) (w.heap.size + 1) (some ⟨w.heap.size + 1, 0, none⟩) 1 1 [ka32] := by
  have r1 := (RB.lit w [.int .u8 5] [5] rfl (n := 1) rfl (by omega)).alloc (by simp) (.cells #[.int .i64 24576, .int .i64 1, .string (T [97]), .int .i64 5, .int .i64 4, .bool true, .bool false, .int .i64 0, .int .i64 0, .int .i64 9, .slice (some ⟨w.heap.size, 0, none⟩) 1 1] 59)
  have rl := RV.lit (w.alloc (.cells #[.int .u8 5] 5)) 59 1 (size := 11) (cs := [.int .i64 24576, .int .i64 1, .string (T [97]), .int .i64 5, .int .i64 4, .bool true, .bool false, .int .i64 0, .int .i64 0, .int .i64 9, .slice (some ⟨w.heap.size, 0, none⟩) 1 1]) rfl (by omega)
  simp only [World.size_alloc] at r1 rl
  refine ⟨_, rl, ?_⟩
  have h1 : EnC ((w.alloc (.cells #[.int .u8 5] 5)).alloc
    (.cells #[.int .i64 24576, .int .i64 1, .string (T [97]), .int .i64 5, .int .i64 4, .bool true, .bool false, .int .i64 0, .int .i64 0, .int .i64 9, .slice (some ⟨w.heap.size, 0, none⟩) 1 1] 59)) (w.heap.size + 1) ka32 (enL ka32 (some ⟨w.heap.size, 0, none⟩) 1 1) := ⟨_, _, _, rfl, r1⟩
  exact Rows.one h1 rfl
theorem k32dflt : ∀ e ∈ [ka32], e.dflt.length ≤ 1000000 := by intro e he; simp only [List.mem_cons, List.not_mem_nil, or_false] at he; subst he; decide
theorem k32vals : ∀ v ∈ [ka32].map (·.dflt), v.length ≤ 1000000 := by intro v hv; simp only [List.map_cons, List.map_nil, List.mem_cons, List.not_mem_nil, or_false] at hv; subst hv; decide
theorem k32words : ∀ x ∈ [1610613000], x < 4294967296 := by intro x hx; simp at hx; omega
set_option maxRecDepth 100000 in
set_option maxHeartbeats 8000000 in
theorem known32_any (w : World) : Calls Try.prog 7 #[] w fun e w' => e = .returned (.bool true) ∧ Below w.heap.size w w' := by
  have F := k32entries w
  have b0 : Below w.heap.size w ((w.alloc (.cells #[.int .u8 5] 5)).alloc
    (.cells #[.int .i64 24576, .int .i64 1, .string (T [97]), .int .i64 5, .int .i64 4, .bool true, .bool false, .int .i64 0, .int .i64 0, .int .i64 9, .slice (some ⟨w.heap.size, 0, none⟩) 1 1] 59)) := alloc_two _ _ _
  have NW := dNew_any _ F (by simp) (by omega) (by intro e he; simp only [List.mem_cons, List.not_mem_nil, or_false] at he; subst he; decide)
  unfold NewPost at NW
  rw [k32new] at NW
  replace NW := Lib.hid NW
  go_enter Try.func7, Try.ntmps7
  go_wp2_with fail
  refine (NW.out).mono ?_
  rintro e w1 (⟨_, b1, g, gv, lc, vc, la, vA, xs, vs, rfl, hd⟩ | ⟨h0, _⟩)
  case inr => exact absurd rfl h0
  have d1 := below_step b0 b1 (Nat.le_refl _)
  replace hd := hd.cut
  clear NW F b0 b1
  go_wp2_with fail
  have bW := alloc_one w1 (.cells #[.int .u32 1610613000] 23)
  have RN := TpNew_any 389 (by omega) 255 2 0 (hd.below bW) k32dflt (RW.lit w1 [1610613000] [.int .u32 1610613000] 1 rfl rfl (by omega)) k32words (by simp)
  unfold TNewP at RN
  rw [k32chk] at RN
  replace RN := Lib.hid RN
  refine (RN.out).mono ?_
  rintro e w2 (⟨_, b2, p, Aw, cw, rfl, hp⟩ | ⟨h0, _⟩)
  case inr => exact absurd rfl h0
  have b12 := below_step bW b2 (Nat.le_refl _)
  have d2 := below_step d1 b12 (Nat.le_refl _)
  have hdw := hd.below bW
  have TL := Tl.new hdw (fun q hq => by have := bW.size; omega) b2 hp (Dc.Fine.new (by rw [k32new]) (by intro e he; simp only [List.mem_cons, List.not_mem_nil, or_false] at he; subst he; decide)) k32dflt k32words (Tp.Ok.rest (by kernel_rfl))
  have hFp : ∀ q, ((w.heap.size + 1 + 1 ≤ q ∧ q < w1.heap.size) ∨ ((w1.alloc (.cells #[.int .u32 1610613000] 23)).heap.size ≤ q ∧ q < w2.heap.size)) → w.heap.size ≤ q := by
    intro q hq
    have := d1.size
    simp only [World.size_alloc] at hq
    omega
  obtain ⟨Fp, hFpe⟩ : ∃ Fp : Nat → Prop, Fp = fun q => (w.heap.size + 1 + 1 ≤ q ∧ q < w1.heap.size) ∨ ((w1.alloc (.cells #[.int .u32 1610613000] 23)).heap.size ≤ q ∧ q < w2.heap.size) := ⟨_, rfl⟩
  replace hFp : ∀ q, Fp q → w.heap.size ≤ q := by rw [hFpe]; exact hFp
  replace TL : Tl w2 Fp p g 389 255 2 0 [1610613000] (Tp.restS 0) ⟨[ka32], [ka32].map (·.dflt)⟩ := by rw [hFpe]; simpa using TL
  clear hFpe RN bW b2 b12 hp hd hdw
  have hpw := hFp p TL.lt.1
  have hpz := TL.lt.2
  have TR := TL.trigger
  rw [k32b, k32o1, k32s1] at TR
  unfold TlOut at TR
  replace TR := Lib.hid TR
  clear TL
  go_wp2_with fail
  refine (TR.out).mono ?_
  rintro e w3 ⟨A3, c3, rfl, o3, M3, TL3⟩
  have d3 : Below w.heap.size w w3 := d2.trans (M3.below d2.size fun q e => by subst e; exact hpw)
  have hp2 : p < w2.heap.size := hpz
  have T2 := TL3.trigger
  rw [k32b, k32o2, k32s2] at T2
  unfold TlOut at T2
  replace T2 := Lib.hid T2
  clear TR TL3
  go_wp2_with fail
  refine (T2.out).mono ?_
  rintro e w4 ⟨A4, c4, rfl, o4, M4, TL4⟩
  have d4 : Below w.heap.size w w4 := d3.trans (M4.below d3.size fun q e => by subst e; exact hpw)
  have o34 := o3.lowk M4 fun q e => by subst e; exact hp2
  have T3 := TL4.tick
  rw [k32b, k32o3, k32s3] at T3
  unfold TlOut at T3
  replace T3 := Lib.hid T3
  clear T2 TL4 o3 o4
  go_wp2_with fail
  refine (T3.out).mono ?_
  rintro e w5 ⟨A5, c5, rfl, o5, M5, TL5⟩
  have d5 : Below w.heap.size w w5 := d4.trans (M5.below d4.size fun q e => by subst e; exact hpw)
  have o35 := o34.lowk M5 fun q e => by subst e; exact hp2
  have T4 := TL5.tick
  rw [k32b, k32o4, k32s4] at T4
  unfold TlOut at T4
  replace T4 := Lib.hid T4
  clear T3 TL5 o34 o5
  go_wp2_with fail
  refine (T4.out).mono ?_
  rintro e w6 ⟨A6, c6, rfl, o6, M6, TL6⟩
  have d6 : Below w.heap.size w w6 := d5.trans (M6.below d5.size fun q e => by subst e; exact hpw)
  have o36 := o35.lowk M6 fun q e => by subst e; exact hp2
  obtain ⟨q, oo, cs, rfl, hq, ⟨A2, n2, c2, rfl, ow⟩, hc⟩ := RS.at_ o36.rs (i := 0) (by decide) (f := ⟨389, false, [5]⟩) rfl
  have q0 := hc 0 _ (by decide) rfl
  have q2 := hc 2 _ (by decide) rfl
  have hcv : 1 ≤ c3 ∧ c3 ≤ 9223372036854775807 := by obtain ⟨zs, z1, _⟩ := o36; exact ⟨z1.rv.le, z1.rv.cap⟩
  obtain ⟨hcv1, hcv2⟩ := hcv
  simp only [Nat.zero_mul, Nat.add_zero] at q0 q2
  have e2 := convb ow.rb
  have H1 := TL6.has 24576 1
  have H2 := TL6.has 24576 0
  have ID := TL6.id
  rw [k32h1] at H1
  rw [k32h2] at H2
  rw [k32id] at ID
  replace H1 := Lib.hid H1; replace H2 := Lib.hid H2; replace ID := Lib.hid ID
  clear T4 TL6 o35 o36 o6 hc ow
  go_wp2_with fail
  refine (H1.out).mono ?_
  rintro e _ ⟨rfl, rfl⟩
  go_wp2_with fail
  refine (H2.out).mono ?_
  rintro e _ ⟨rfl, rfl⟩
  go_wp2_with fail
  refine (ID.out).mono ?_
  rintro e _ ⟨rfl, rfl⟩
  go_wp2_with fail
  go_ret
  exact ⟨rfl, d6⟩
end Go.Proofs.Ytbmocffnnlfnjaa
/-
  Arguments of the statements of layer 32; given.
  Conditions: none.
-/
namespace Go.Proofs.Ytbmocffnnlfnjaa
set_option linter.unusedVariables false
set_option linter.unusedSimpArgs false
open Go.ChangeShapes Go.WideShapes Go.ChangeAt Go.RowKit
/-- Something that happens. -/
structure TOp where
  kind : Int
  index : Int
  sub : Int
  data : List UInt8
def top0 : TOp := ⟨0, 0, 0, []⟩
def TOpC (w : World) (B : Nat) (f : TOp) (cs : List Value) : Prop := ∃ A n c, cs = [.int .i64 f.kind, .int .i64 f.index, .int .i64 f.sub, .slice A n c] ∧ RB w B A n c f.data
def TOps (w : World) (B B' : Nat) (A : Option Addr) (n c : Nat) (fs : List TOp) : Prop := RS (TOpC w B') w B 4 A n c fs
theorem TOpC.below {w w' : World} {B : Nat} {f : TOp} {cs : List Value} (hb : Below B w w') (h : TOpC w B f cs) : TOpC w' B f cs := by
  obtain ⟨A, n, c, h1, h2⟩ := h
  exact ⟨A, n, c, h1, h2.below hb⟩
section
variable {w w' : World} {B B' n c : Nat} {A : Option Addr} {fs : List TOp}
theorem TOps.len (h : TOps w B B' A n c fs) : fs.length = n := RS.len h (by decide)
theorem TOps.lt (h : TOps w B B' A n c fs) : n ≤ 9223372036854775807 := RS.lt h
theorem TOps.below (h : TOps w B B' A n c fs) (hb : Below B w w') (hB : B' ≤ B) : TOps w' B B' A n c fs := RS.below h hb fun _ _ h => h.below (hb.mono hB)
theorem TOps.at_ (h : TOps w B B' A n c fs) {i : Nat} (hi : i < n) : ∃ b o A' n' c', A = some ⟨b, o, none⟩ ∧ b < B ∧ w.cell? ⟨b, o + i * 4, none⟩ = some (.int .i64 (fs.getD i top0).kind) ∧
    w.cell? ⟨b, o + i * 4 + 1, none⟩ = some (.int .i64 (fs.getD i top0).index) ∧ w.cell? ⟨b, o + i * 4 + 2, none⟩ = some (.int .i64 (fs.getD i top0).sub) ∧ w.cell? ⟨b, o + i * 4 + 3, none⟩ = some (.slice A' n' c') ∧ RB w B' A' n' c' (fs.getD i top0).data := by
  have hl := h.len
  have hf : fs[i]? = some (fs.getD i top0) := by simp [List.getD, List.getElem?_eq_getElem (show i < fs.length by omega)]
  obtain ⟨b, o, cs, rfl, hb, ⟨A', n', c', rfl, hr⟩, hc⟩ := RS.at_ h (by decide) hf
  exact ⟨b, o, A', n', c', rfl, hb, hc 0 _ (by decide) rfl, hc 1 _ (by decide) rfl, hc 2 _ (by decide) rfl, hc 3 _ (by decide) rfl, hr⟩
end
section
variable {H : Type} {enc : TypeId × Value → H} {w : World} {spare : Nat → Bool} {held : Bool}
set_option maxRecDepth 100000 in
theorem cells_tconfig {fuel : Nat} {cs : List Value} {x : DataW H × List MemPlace} (h : DataW.trod enc Try.prog w 0 spare held fuel 26 cs = some x) :
    ∃ (v : Nat) (t inh ev : Int) (A : Option Addr) (n c : Nat) (ws : List Nat), cs = [.int .u32 (v : Int), .int .i64 t, .int .i64 inh, .int .i64 ev, .slice A n c] ∧ v < 4294967296 ∧ RW w w.heap.size A n c ws ∧ (∀ x ∈ ws, x < 4294967296) ∧ (Lit.int .i64 t).wf = true ∧ (Lit.int .i64 inh).wf = true ∧ (Lit.int .i64 ev).wf = true := by
  have h3 : cs.length = 5 := trod_len Try.underlying26 h (by kernel_rfl)
  match cs, h3 with
  | [a, b, b', b'', d], _ =>
    obtain ⟨_, _, t0⟩ := trod_one Try.underlying26 h 0 23 0 a rfl (by kernel_rfl) rfl
    obtain ⟨_, _, t1⟩ := trod_one Try.underlying26 h 1 3 1 b rfl (by kernel_rfl) rfl
    obtain ⟨_, _, t1'⟩ := trod_one Try.underlying26 h 2 3 2 b' rfl (by kernel_rfl) rfl
    obtain ⟨_, _, t1''⟩ := trod_one Try.underlying26 h 3 3 3 b'' rfl (by kernel_rfl) rfl
    obtain ⟨_, _, t2⟩ := trod_one Try.underlying26 h 4 24 4 d rfl (by kernel_rfl) rfl
    obtain ⟨i, rfl, wi⟩ := cell_int Try.underlying23 t0
    obtain ⟨j, rfl, wj⟩ := cell_int Try.underlying3 t1
    obtain ⟨j', rfl, wj'⟩ := cell_int Try.underlying3 t1'
    obtain ⟨j'', rfl, wj''⟩ := cell_int Try.underlying3 t1''
    obtain ⟨A, n, c, ws, rfl, hr, hwl⟩ := cell_words t2
    obtain ⟨b1, b2⟩ := bounds_u32 wi
    obtain ⟨m, rfl⟩ := Int.eq_ofNat_of_zero_le b1
    exact ⟨m, j, j', j'', A, n, c, ws, rfl, by omega, hr, hwl, wj, wj', wj''⟩
set_option maxRecDepth 100000 in
theorem open_tconfig {r : Reach} {b0 : Nat} {v : Value} {d : DataW H} {p : List MemPlace} (hv : Value.okWide Try.prog w r b0 26 v) (h : DataW.Trod enc Try.prog w 0 spare held 26 v d p) :
    ∃ (v1 : Nat) (t inh ev : Int) (A : Option Addr) (n c : Nat) (ws : List Nat), v = .agg #[.int .u32 (v1 : Int), .int .i64 t, .int .i64 inh, .int .i64 ev, .slice A n c] ∧ v1 < 4294967296 ∧ RW w w.heap.size A n c ws ∧ (∀ x ∈ ws, x < 4294967296) ∧ (Lit.int .i64 t).wf = true ∧ (Lit.int .i64 inh).wf = true ∧ (Lit.int .i64 ev).wf = true := by
  obtain ⟨cs, rfl, hsz⟩ := okWide_struct Try.underlying26 hv
  obtain ⟨fuel, hf⟩ := h
  have hf' : DataW.trod enc Try.prog w 0 spare held fuel 26 cs.toList = some (d, p) := by simpa [Value.cells] using hf
  obtain ⟨v1, t, inh, ev, A, n, c, ws, e, h1, h2, h3, h4⟩ := cells_tconfig hf'
  refine ⟨v1, t, inh, ev, A, n, c, ws, ?_, h1, h2, h3, h4⟩
  rw [← Array.toArray_toList (xs := cs), e]
theorem cells_top {fuel : Nat} {cs : List Value} {x : DataW H × List MemPlace} (h : DataW.trod enc Try.prog w 0 spare held fuel 51 cs = some x) : ∃ f, TOpC w w.heap.size f cs := by
  have h3 : cs.length = 4 := trod_len Try.underlying51 h (by kernel_rfl)
  match cs, h3 with
  | [a, b, d, e], _ =>
    obtain ⟨_, _, t0⟩ := trod_one Try.underlying51 h 0 3 0 a rfl (by kernel_rfl) rfl
    obtain ⟨_, _, t1⟩ := trod_one Try.underlying51 h 1 3 1 b rfl (by kernel_rfl) rfl
    obtain ⟨_, _, t2⟩ := trod_one Try.underlying51 h 2 3 2 d rfl (by kernel_rfl) rfl
    obtain ⟨_, _, t3⟩ := trod_one Try.underlying51 h 3 49 3 e rfl (by kernel_rfl) rfl
    obtain ⟨i, rfl, _⟩ := cell_int Try.underlying3 t0
    obtain ⟨j, rfl, _⟩ := cell_int Try.underlying3 t1
    obtain ⟨k, rfl, _⟩ := cell_int Try.underlying3 t2
    obtain ⟨A, n, c, l, rfl, hr⟩ := cell_bytes Try.underlying49 Try.underlying5 (by kernel_rfl) t3
    exact ⟨⟨i, j, k, l⟩, A, n, c, rfl, hr⟩
set_option maxRecDepth 100000 in
theorem open_case32 {r : Reach} {b0 : Nat} {v : Value} {d : DataW H} {p : List MemPlace} (hv : Value.okWide Try.prog w r b0 29 v) (h : DataW.Trod enc Try.prog w 0 spare held 29 v d p) :
    ∃ (A0 A1 A2 : Option Addr) (n0 c0 n1 c1 n2 c2 v1 : Nat) (t inh ev : Int) (es : List Ent.En) (ws : List Nat) (ops : List TOp), v = .agg #[.slice A0 n0 c0, .int .u32 (v1 : Int), .int .i64 t, .int .i64 inh, .int .i64 ev, .slice A1 n1 c1, .slice A2 n2 c2] ∧
      REn w w.heap.size w.heap.size A0 n0 c0 es ∧ (∀ e ∈ es, e.name.length ≤ 9223372036854775807) ∧ v1 < 4294967296 ∧ RW w w.heap.size A1 n1 c1 ws ∧ (∀ x ∈ ws, x < 4294967296) ∧ ((Lit.int .i64 t).wf = true ∧ (Lit.int .i64 inh).wf = true ∧ (Lit.int .i64 ev).wf = true) ∧ TOps w w.heap.size w.heap.size A2 n2 c2 ops := by
  obtain ⟨cs, rfl, hsz⟩ := okWide_struct Try.underlying29 hv
  obtain ⟨fuel, hf⟩ := h
  have hf' : DataW.trod enc Try.prog w 0 spare held fuel 29 cs.toList = some (d, p) := by simpa [Value.cells] using hf
  have h3 : cs.toList.length = 7 := trod_len Try.underlying29 hf' (by kernel_rfl)
  obtain ⟨l, hl⟩ : ∃ l, l = cs.toList := ⟨_, rfl⟩
  rw [← hl] at h3 hf'
  match l, h3 with
  | [a, b1, b2, b3, b4, b5, e], _ =>
    obtain ⟨_, _, t0⟩ := trod_one Try.underlying29 hf' 0 22 0 a rfl (by kernel_rfl) rfl
    obtain ⟨_, _, t1⟩ := trod_part Try.underlying29 hf' 1 26 1 5 rfl (by kernel_rfl)
    obtain ⟨_, _, t2⟩ := trod_one Try.underlying29 hf' 2 27 6 e rfl (by kernel_rfl) rfl
    obtain ⟨A0, n0, c0, es, rfl, r0, r0'⟩ := cell_entries t0
    obtain ⟨v1, t, inh, ev, A1, n1, c1, ws, e1, h1, r1, r1', wt⟩ := cells_tconfig t1
    obtain ⟨A2, n2, c2, rfl⟩ := cell_slice Try.underlying27 t2
    obtain ⟨ops, xs, hlo, o1, o2⟩ := open_rows (TOpC w w.heap.size) Try.underlying27 (show Try.prog.cellsOf 51 = 4 by kernel_rfl) (by decide) (fun _ _ _ h => cells_top h) t2
    have e2 : [b1, b2, b3, b4, b5] = [.int .u32 (v1 : Int), .int .i64 t, .int .i64 inh, .int .i64 ev, .slice A1 n1 c1] := e1
    injection e2 with e3 e4
    injection e4 with e4 e5
    injection e5 with e5 e6
    injection e6 with e6 e7
    injection e7 with e7 _
    subst e3 e4 e5 e6 e7
    refine ⟨A0, A1, A2, n0, c0, n1, c1, n2, c2, v1, t, inh, ev, es, ws, ops, ?_, r0, r0', h1, r1, r1', wt, ⟨xs, o1, o2⟩⟩
    rw [← Array.toArray_toList (xs := cs), ← hl]
end
set_option maxRecDepth 100000 in
set_option maxHeartbeats 1000000 in
theorem given32_any (v : Nat) (t inh ev : Int) (A : Option Addr) (n c : Nat) (w : World) : Calls Try.prog 10 #[.agg #[.int .u32 (v : Int), .int .i64 t, .int .i64 inh, .int .i64 ev, .slice A n c]] w fun e w' => e = .returned (.agg #[.int .u32 (v : Int), .int .i64 t, .int .i64 inh, .int .i64 ev, .slice A n c]) ∧ Below w.heap.size w w' := by
  have b0 := alloc_two w (.cells #[.int .u32 (v : Int), .int .i64 t, .int .i64 inh, .int .i64 ev, .slice A n c] 26) (.cells #[.int .u32 0, .int .i64 0, .int .i64 0, .int .i64 0, .slice none 0 0] 39)
  have KF := ((Blk.new w 26 #[.int .u32 (v : Int), .int .i64 t, .int .i64 inh, .int .i64 ev, .slice A n c]).alloc (.cells #[.int .u32 0, .int .i64 0, .int .i64 0, .int .i64 0, .slice none 0 0] 39)).fiv
  have KO := Blk.new (w.alloc (.cells #[.int .u32 (v : Int), .int .i64 t, .int .i64 inh, .int .i64 ev, .slice A n c] 26)) 39 #[.int .u32 0, .int .i64 0, .int .i64 0, .int .i64 0, .slice none 0 0]
  rw [World.size_alloc] at KO
  have FO := KO.fiv
  go_enter Try.func10, Try.ntmps10
  go_wp2_with fail
  have R0 := Blk.new (w.alloc (.cells #[.int .u32 (v : Int), .int .i64 t, .int .i64 inh, .int .i64 ev, .slice A n c] 26)) 39 #[.int .u32 (v : Int), .int .i64 t, .int .i64 inh, .int .i64 ev, .slice A n c]
  rw [World.size_alloc] at R0
  have R := R0.fiv
  exact bodyPost_ret (v := .agg #[.int .u32 (v : Int), .int .i64 t, .int .i64 inh, .int .i64 ev, .slice A n c]) (by simp [results, Try.results10, go_sem, R]) rfl ⟨rfl, alloc_two _ _ _⟩
end Go.Proofs.Ytbmocffnnlfnjaa
/-
  Walks: what a PDO that is not there, or an empty one, answers (layer 32).
  Conditions: none.
-/
namespace Go.Proofs.Ytbmocffnnlfnjaa
set_option linter.unusedVariables false
set_option linter.unusedSimpArgs false
open Go.RowKit
set_option maxHeartbeats 1000000 in
theorem TTrigger_nil (w : World) : Calls Try.prog 12 #[.pointer none] w fun e w' => e = .returned (.slice none 0 0) ∧ w = w' := by
  go_enter Try.func12, Try.ntmps12
  go_wp2_with fail
  go_ret
  exact ⟨rfl, rfl⟩
set_option maxHeartbeats 1000000 in
theorem TTrigger_zero {w : World} {g : Nat} (F : w.cell? ⟨g, 0, none⟩ = some (.pointer none)) : Calls Try.prog 12 #[.pointer (some ⟨g, 0, none⟩)] w fun e w' => e = .returned (.slice none 0 0) ∧ w = w' := by
  go_enter Try.func12, Try.ntmps12
  go_wp2_with fail
  go_ret
  exact ⟨rfl, rfl⟩
set_option maxHeartbeats 1000000 in
theorem TTick_nil (w : World) : Calls Try.prog 13 #[.pointer none] w fun e w' => e = .returned (.slice none 0 0) ∧ w = w' := by
  go_enter Try.func13, Try.ntmps13
  go_wp2_with fail
  go_ret
  exact ⟨rfl, rfl⟩
set_option maxHeartbeats 1000000 in
theorem TTick_zero {w : World} {g : Nat} (F : w.cell? ⟨g, 0, none⟩ = some (.pointer none)) : Calls Try.prog 13 #[.pointer (some ⟨g, 0, none⟩)] w fun e w' => e = .returned (.slice none 0 0) ∧ w = w' := by
  go_enter Try.func13, Try.ntmps13
  go_wp2_with fail
  go_ret
  exact ⟨rfl, rfl⟩
set_option maxHeartbeats 1000000 in
theorem TPulse_nil (w : World) : Calls Try.prog 14 #[.pointer none] w fun e w' => e = .returned (.slice none 0 0) ∧ w = w' := by
  go_enter Try.func14, Try.ntmps14
  go_wp2_with fail
  go_ret
  exact ⟨rfl, rfl⟩
set_option maxHeartbeats 1000000 in
theorem TPulse_zero {w : World} {g : Nat} (F : w.cell? ⟨g, 0, none⟩ = some (.pointer none)) : Calls Try.prog 14 #[.pointer (some ⟨g, 0, none⟩)] w fun e w' => e = .returned (.slice none 0 0) ∧ w = w' := by
  go_enter Try.func14, Try.ntmps14
  go_wp2_with fail
  go_ret
  exact ⟨rfl, rfl⟩
set_option maxHeartbeats 1000000 in
theorem TRest_nil (w : World) : Calls Try.prog 15 #[.pointer none] w fun e w' => e = .returned (.tuple #[]) ∧ w = w' := by
  go_enter Try.func15, Try.ntmps15
  go_wp2_with fail
  (try simp only [Exit.inBlock, Exit.then])
  refine bodyPost_ret (results_none rfl _ _ _) rfl ?_
  exact ⟨rfl, rfl⟩
set_option maxHeartbeats 1000000 in
theorem THas_nil (i j : Value) (w : World) : Calls Try.prog 16 #[.pointer none, i, j] w fun e w' => e = .returned (.bool false) ∧ w = w' := by
  go_enter Try.func16, Try.ntmps16
  go_wp2_with fail
  go_ret
  exact ⟨rfl, rfl⟩
set_option maxHeartbeats 1000000 in
theorem TId_nil (w : World) : Calls Try.prog 11 #[.pointer none] w fun e w' => e = .returned (.int .i64 0) ∧ w = w' := by
  go_enter Try.func11, Try.ntmps11
  go_wp2_with fail
  go_ret
  exact ⟨rfl, rfl⟩
set_option maxHeartbeats 1000000 in
theorem TId_zero {w : World} {g : Nat} (F : w.cell? ⟨g, 6, none⟩ = some (.int .i64 0)) : Calls Try.prog 11 #[.pointer (some ⟨g, 0, none⟩)] w fun e w' => e = .returned (.int .i64 0) ∧ w = w' := by
  go_enter Try.func11, Try.ntmps11
  go_wp2_with fail
  go_ret
  exact ⟨rfl, rfl⟩
set_option maxHeartbeats 1000000 in
theorem TNew_nil (x y z u q : Value) (w : World) : Calls Try.prog 9 #[.pointer none, .agg #[x, y, z, u, q]] w fun e w' => e = .returned (.tuple #[.pointer none, .int .u32 100925511]) ∧ Below w.heap.size w w' := by
  have b0 := alloc_one w (.cells #[x, y, z, u, q] 39)
  have K := Blk.new w 39 #[x, y, z, u, q]
  have f0 := K.cell 0
  have f1 := K.cell 1
  have f2 := K.cell 2
  have f3 := K.cell 3
  have f4 := K.cell 4
  have CN := Lib.hid (TCheck_nil x y z u q)
  go_enter Try.func9, Try.ntmps9
  go_wp2_with fail
  refine (CN.out _).mono ?_
  rintro e w1 ⟨rfl, b1⟩
  go_wp2_with fail
  go_ret2
  exact ⟨rfl, below_step b0 b1 (Nat.le_refl _)⟩
end Go.Proofs.Ytbmocffnnlfnjaa
