/-
  Texts joined: RpdPl, ValSame.
  Conditions: none.
-/
import Derived.Test.YtkddillihhjghaaGreatJ04
import Derived.Test.YtkddillihhjghaaGreatJ13
import Derived.Test.YtkddillihhjghaaGreatJ14
import Derived.Test.YtkddillihhjghaaGreatJ18
import Derived.Test.YtkddillihhjghaaGreatJ21
/-
  A PDO of the program and one of the reference, over dictionaries that are alike, beside one another.
  Conditions: none.
-/
namespace Go.Proofs.YtkddillihhjghaaGreat
set_option linter.unusedVariables false
set_option linter.unusedSimpArgs false
open Go.RowKit Go.Sort
theorem Recv_any {F : Nat → Prop} {w : World} {base g gp gd v : Nat} {t : Int} {ws : List Nat} {waits : List Dc.Vl} {Aw Av : Option Addr} {cw cv : Nat} {gv lc vc : Nat} {la : Addr} {vA : Option Addr} {xs vs : List Value} {D : Dc.Dic} (h : RpM w base g gp gd v t ws waits Aw cw Av cv) (hD : DRt 71 w F gd gv (some la) lc vA vc xs vs D) (hd : ∀ e ∈ D.l, e.dflt.length ≤ 1000000) (hwl : ∀ x ∈ ws, x < 4294967296) {A : Option Addr} {n c B : Nat} {b : List UInt8} (hr : RB w B A n c b) (hB : B ≤ w.heap.size) (hn : n ≤ 1000000) (fid : Int) (rem : Bool) :
    Calls Tryz.prog 14 #[.pointer (some ⟨g, 0, none⟩), .agg #[.int .i64 fid, .bool rem, .slice A n c]] w (RecvP (Rp.recvS D.l v t ws waits fid rem b) base g gp gd v t ws Aw cw w) := by
  by_cases ho : Cob.pdo v = 0 ∨ fid ≠ (Cob.pdo v : Int) ∨ rem = true ∨ ws.length = 0
  · exact Recv_off D.l h fid rem b ho
  · have h1 : Cob.pdo v ≠ 0 := fun e => ho (.inl e)
    have h2 : fid = (Cob.pdo v : Int) := Classical.not_not.1 fun e => ho (.inr (.inl e))
    have h3 : rem = false := by
      cases rem
      · rfl
      · exact absurd (.inr (.inr (.inl rfl))) ho
    have h4 : ws.length ≠ 0 := fun e => ho (.inr (.inr (.inr e)))
    subst h2 h3
    exact Recv_on h hD hd hwl hr hB hn h1 h4
theorem RRecv_any {F : Nat → Prop} {w : World} {base g gd v : Nat} {t : Int} {ws : List Nat} {waits : List Dc.Vl} {Aw Av : Option Addr} {cw cv : Nat} {gv lc vc : Nat} {lA vA : Option Addr} {xs vs : List Value} {D : Dc.Dic} (hv : v < 4294967296) (hbad : Cob.bad v = false) (h : RpRM w base g gd v t ws waits Aw cw Av cv) (hD : DRt 77 w F gd gv lA lc vA vc xs vs D) (hwl : ∀ x ∈ ws, x < 4294967296) {A : Option Addr} {n c B : Nat} {b : List UInt8} (hr : RB w B A n c b) (hB : B ≤ w.heap.size) (hn : n ≤ 1000000) (fid : Int) (rem : Bool) :
    Calls Tryz.prog 15 #[.pointer (some ⟨g, 0, none⟩), .agg #[.int .i64 fid, .bool rem, .slice A n c]] w (RRecvP (Rp.recvS D.l v t ws waits fid rem b) base g gd v t ws Aw cw w) := by
  by_cases ho : Cob.pdo v = 0 ∨ fid ≠ (Cob.pdo v : Int) ∨ rem = true ∨ ws.length = 0
  · exact RRecv_off D.l hv hbad h fid rem b ho
  · have h1 : Cob.pdo v ≠ 0 := fun e => ho (.inl e)
    have h2 : fid = (Cob.pdo v : Int) := Classical.not_not.1 fun e => ho (.inr (.inl e))
    have h3 : rem = false := by
      cases rem
      · rfl
      · exact absurd (.inr (.inr (.inl rfl))) ho
    have h4 : ws.length ≠ 0 := fun e => ho (.inr (.inr (.inr e)))
    subst h2 h3
    exact RRecv_on hv hbad h hD hwl hr hB hn h1 h4
section
variable {w w' : World} {base base' g gp gd v q : Nat} {t : Int} {t' : TypeId} {cs : Array Value} {ws : List Nat} {waits : List Dc.Vl} {Aw Av : Option Addr} {cw cv : Nat}
theorem VlW.more' {w : World} {base base' : Nat} {f : Dc.Vl} {cs : List Value} (hb : base' ≤ base) (h : VlW w base f cs) : VlW w base' f cs := h.more hb
theorem RpM.more (h : RpM w base g gp gd v t ws waits Aw cw Av cv) (hb : base' ≤ base) : RpM w base' g gp gd v t ws waits Aw cw Av cv :=
  ⟨Nat.le_trans hb h.gb, Nat.le_trans hb h.gpb, h.ne, h.blk, h.box, OV.more h.words hb, OS.more h.wait hb fun _ _ h => h.more hb⟩
theorem RpRM.more (h : RpRM w base g gd v t ws waits Aw cw Av cv) (hb : base' ≤ base) : RpRM w base' g gd v t ws waits Aw cw Av cv :=
  ⟨Nat.le_trans hb h.gb, h.blk, OV.more h.words hb, OS.more h.wait hb fun _ _ h => h.more hb⟩
theorem RpM.mvg (h : RpM w base g gp gd v t ws waits Aw cw Av cv) (hq : Blk w q t' cs) (h0 : t' ≠ 81) (h00 : t' ≠ 41) (h1 : t' ≠ 23) (h2 : t' ≠ 64) (h3 : t' ≠ 5) (hm : Mv (fun b => b = q) w w') : RpM w' base g gp gd v t ws waits Aw cw Av cv :=
  ⟨h.gb, h.gpb, h.ne, h.blk.mv hm (Blk.ne_ h.blk hq (Ne.symm h0)), fun ht => (h.box ht).mv hm (Blk.ne_ (h.box ht) hq (Ne.symm h00)), OV.kept h.words hm.grown (.inr (own_blk_ne h.words hq (Ne.symm h1))), OS.mvg h.wait hq h2 h3 hm⟩
theorem RpRM.mvg (h : RpRM w base g gd v t ws waits Aw cw Av cv) (hq : Blk w q t' cs) (h0 : t' ≠ 87) (h1 : t' ≠ 23) (h2 : t' ≠ 64) (h3 : t' ≠ 5) (hm : Mv (fun b => b = q) w w') : RpRM w' base g gd v t ws waits Aw cw Av cv :=
  ⟨h.gb, h.blk.mv hm (Blk.ne_ h.blk hq (Ne.symm h0)), OV.kept h.words hm.grown (.inr (own_blk_ne h.words hq (Ne.symm h1))), OS.mvg h.wait hq h2 h3 hm⟩
theorem OS.sp0 {w w' : World} {base n c : Nat} {A : Option Addr} (h : OS (VlW w base) w base 64 3 A n c []) (k : SpU w w') : OS (VlW w' base) w' base 64 3 A n c [] := by
  obtain ⟨xs, h1, h2⟩ := h
  exact ⟨xs, h1.sp k (by decide), ⟨h2.1, fun i f hf => by simp at hf⟩⟩
theorem RpM.sp (h : RpM w base g gp gd v t ws [] Aw cw Av cv) (k : SpU w w') : RpM w' base g gp gd v t ws [] Aw cw Av cv :=
  ⟨h.gb, h.gpb, h.ne, k.rest _ _ _ (by decide) h.blk, fun ht => k.rest _ _ _ (by decide) (h.box ht), OV.sp h.words k (by decide), OS.sp0 h.wait k⟩
theorem RpRM.sp (h : RpRM w base g gd v t ws [] Aw cw Av cv) (k : SpU w w') : RpRM w' base g gd v t ws [] Aw cw Av cv :=
  ⟨h.gb, k.rest _ _ _ (by decide) h.blk, OV.sp h.words k (by decide), OS.sp0 h.wait k⟩
end
section
variable {w w' : World} {G : Nat → Prop} {base g gp gd v : Nat} {t : Int} {ws : List Nat} {waits : List Dc.Vl} {Aw Av : Option Addr} {cw cv : Nat}
theorem OV.low {w w' : World} {G : Nat → Prop} {base e size n c : Nat} {A : Option Addr} {xs : List Value} (h : OV w base e size A n c xs) (hm : Mv G w w') (hG : ∀ q, G q → q < base) : OV w' base e size A n c xs := by
  refine ⟨h.1, ?_⟩
  rcases h.2 with h2 | ⟨k, cap, cur, hv, hg, hh, r⟩
  · exact .inl h2
  · exact .inr ⟨k, cap, cur, hv, hg, (hm.block k (Array.getElem?_eq_some_iff.1 hh).1 fun e => by have := hG k e; omega).trans hh, r⟩
theorem OS.low {w w' : World} {G : Nat → Prop} {base n c : Nat} {A : Option Addr} {l : List Dc.Vl} (h : OS (VlW w base) w base 64 3 A n c l) (hm : Mv G w w') (hG : ∀ q, G q → q < base) : OS (VlW w' base) w' base 64 3 A n c l := by
  obtain ⟨xs, k1, k2⟩ := h
  refine ⟨xs, k1.low hm hG, k2.imp fun f cs hf => ?_⟩
  obtain ⟨A, n, c, e1, e2⟩ := hf
  refine ⟨A, n, c, e1, e2.len, e2.le, e2.cap, e2.nil, fun hc => ?_⟩
  obtain ⟨g, cur, e, hg, k, r⟩ := e2.at_ hc
  exact ⟨g, cur, e, hg, k.mv hm fun h => by have := hG g h; omega, r⟩
/-- What lies below is written. -/
theorem RpM.low (h : RpM w base g gp gd v t ws waits Aw cw Av cv) (hm : Mv G w w') (hG : ∀ q, G q → q < base) : RpM w' base g gp gd v t ws waits Aw cw Av cv := by
  have h1 := h.gb
  have h2 := h.gpb
  exact ⟨h1, h2, h.ne, h.blk.mv hm fun e => by have := hG _ e; omega, fun ht => (h.box ht).mv hm fun e => by have := hG _ e; omega, OV.low h.words hm hG, OS.low h.wait hm hG⟩
theorem RpRM.low (h : RpRM w base g gd v t ws waits Aw cw Av cv) (hm : Mv G w w') (hG : ∀ q, G q → q < base) : RpRM w' base g gd v t ws waits Aw cw Av cv := by
  have h1 := h.gb
  exact ⟨h1, h.blk.mv hm fun e => by have := hG _ e; omega, OV.low h.words hm hG, OS.low h.wait hm hG⟩
end
/-- Both PDOs, and both dictionaries below block m. -/
structure Pl (w : World) (m m2 gd gr p gp r v : Nat) (t : Int) (ws : List Nat) (wp wr : List Dc.Vl) (D : Dc.Dic) : Prop where
  dd : ∃ (F : Nat → Prop) (gv lc vc : Nat) (la : Addr) (vA : Option Addr) (xs vs : List Value), DRt 71 w F gd gv (some la) lc vA vc xs vs D ∧ ∀ q, F q → q < m
  dr : ∃ (F : Nat → Prop) (gv lc vc : Nat) (lA vA : Option Addr) (xs vs : List Value), DRt 77 w F gr gv lA lc vA vc xs vs D ∧ ∀ q, F q → q < m
  pm : ∃ (Aw : Option Addr) (cw : Nat) (Av : Option Addr) (cv : Nat), RpM w m2 p gp gd v t ws wp Aw cw Av cv
  rm : ∃ (Aw : Option Addr) (cw : Nat) (Av : Option Addr) (cv : Nat), RpRM w m2 r gr v t ws wr Aw cw Av cv
  le : m ≤ m2
section
variable {w w' : World} {m m2 gd gr p gp r v : Nat} {t : Int} {ws : List Nat} {wp wr wp' wr' : List Dc.Vl} {D : Dc.Dic}
theorem Pl.lt (h : Pl w m m2 gd gr p gp r v t ws wp wr D) : m ≤ p ∧ p < w.heap.size ∧ m ≤ r ∧ r < w.heap.size := by
  obtain ⟨_, _, ⟨_, _, _, _, h1⟩, ⟨_, _, _, _, h2⟩, hle⟩ := h
  exact ⟨Nat.le_trans hle h1.gb, h1.blk.lt, Nat.le_trans hle h2.gb, h2.blk.lt⟩
theorem Pl.below (h : Pl w m m2 gd gr p gp r v t ws wp wr D) (hb : Below w.heap.size w w') : Pl w' m m2 gd gr p gp r v t ws wp wr D := by
  obtain ⟨⟨F, gv, lc, vc, la, vA, xs, vs, h1, h1'⟩, ⟨F', gv', lc', vc', lA', vA', xs', vs', h2, h2'⟩, ⟨Aw, cw, Av, cv, h3⟩, ⟨Aw', cw', Av', cv', h4⟩, hle⟩ := h
  exact ⟨⟨F, gv, lc, vc, la, vA, xs, vs, h1.below hb, h1'⟩, ⟨F', gv', lc', vc', lA', vA', xs', vs', h2.below hb, h2'⟩, ⟨Aw, cw, Av, cv, h3.below hb⟩, ⟨Aw', cw', Av', cv', h4.below hb⟩, hle⟩
/-- Behind a call of the program's PDO. -/
theorem Pl.stepP (h : Pl w m m2 gd gr p gp r v t ws wp wr D) (hm : Mv (fun q => q = p) w w') (hp : ∃ (Aw : Option Addr) (cw : Nat) (Av : Option Addr) (cv : Nat), RpM w' m2 p gp gd v t ws wp' Aw cw Av cv) : Pl w' m m2 gd gr p gp r v t ws wp' wr D := by
  have hl := h.lt
  obtain ⟨⟨F, gv, lc, vc, la, vA, xs, vs, h1, h1'⟩, ⟨F', gv', lc', vc', lA', vA', xs', vs', h2, h2'⟩, ⟨Aw, cw, Av, cv, h3⟩, ⟨Aw', cw', Av', cv', h4⟩, hle⟩ := h
  exact ⟨⟨F, gv, lc, vc, la, vA, xs, vs, h1.mv hm fun q _ hf e => by have := h1' q hf; omega, h1'⟩, ⟨F', gv', lc', vc', lA', vA', xs', vs', h2.mv hm fun q _ hf e => by have := h2' q hf; omega, h2'⟩, hp, ⟨Aw', cw', Av', cv', h4.mvg h3.blk (by decide) (by decide) (by decide) (by decide) hm⟩, hle⟩
theorem Pl.stepR (h : Pl w m m2 gd gr p gp r v t ws wp wr D) (hm : Mv (fun q => q = r) w w') (hr : ∃ (Aw : Option Addr) (cw : Nat) (Av : Option Addr) (cv : Nat), RpRM w' m2 r gr v t ws wr' Aw cw Av cv) : Pl w' m m2 gd gr p gp r v t ws wp wr' D := by
  have hl := h.lt
  obtain ⟨⟨F, gv, lc, vc, la, vA, xs, vs, h1, h1'⟩, ⟨F', gv', lc', vc', lA', vA', xs', vs', h2, h2'⟩, ⟨Aw, cw, Av, cv, h3⟩, ⟨Aw', cw', Av', cv', h4⟩, hle⟩ := h
  exact ⟨⟨F, gv, lc, vc, la, vA, xs, vs, h1.mv hm fun q _ hf e => by have := h1' q hf; omega, h1'⟩, ⟨F', gv', lc', vc', lA', vA', xs', vs', h2.mv hm fun q _ hf e => by have := h2' q hf; omega, h2'⟩, ⟨Aw, cw, Av, cv, h3.mvg h4.blk (by decide) (by decide) (by decide) (by decide) (by decide) hm⟩, hr, hle⟩
/-- What lies between dictionaries and PDOs is written. -/
theorem Pl.low {G : Nat → Prop} (h : Pl w m m2 gd gr p gp r v t ws wp wr D) (hm : Mv G w w') (hG : ∀ q, G q → m ≤ q ∧ q < m2) : Pl w' m m2 gd gr p gp r v t ws wp wr D := by
  obtain ⟨⟨F, gv, lc, vc, la, vA, xs, vs, h1, h1'⟩, ⟨F', gv', lc', vc', lA', vA', xs', vs', h2, h2'⟩, ⟨Aw, cw, Av, cv, h3⟩, ⟨Aw', cw', Av', cv', h4⟩, hle⟩ := h
  exact ⟨⟨F, gv, lc, vc, la, vA, xs, vs, h1.mv hm fun q _ hf e => by have := h1' q hf; have := hG q e; omega, h1'⟩, ⟨F', gv', lc', vc', lA', vA', xs', vs', h2.mv hm fun q _ hf e => by have := h2' q hf; have := hG q e; omega, h2'⟩, ⟨Aw, cw, Av, cv, h3.low hm fun q e => (hG q e).2⟩, ⟨Aw', cw', Av', cv', h4.low hm fun q e => (hG q e).2⟩, hle⟩
/-- Behind a call that spoils bytes which were made later. -/
theorem Pl.spoil {B : Nat} (h : Pl w m m2 gd gr p gp r v t ws [] [] D) (hB : m ≤ B) (hb : Below B w w') (k : SpU w w') : Pl w' m m2 gd gr p gp r v t ws [] [] D := by
  obtain ⟨⟨F, gv, lc, vc, la, vA, xs, vs, h1, h1'⟩, ⟨F', gv', lc', vc', lA', vA', xs', vs', h2, h2'⟩, ⟨Aw, cw, Av, cv, h3⟩, ⟨Aw', cw', Av', cv', h4⟩, hle⟩ := h
  have hm := Mv.of_below hb
  exact ⟨⟨F, gv, lc, vc, la, vA, xs, vs, h1.mv hm fun q _ hf e => by have := h1' q hf; have e' : B ≤ q := e; omega, h1'⟩, ⟨F', gv', lc', vc', lA', vA', xs', vs', h2.mv hm fun q _ hf e => by have := h2' q hf; have e' : B ≤ q := e; omega, h2'⟩, ⟨Aw, cw, Av, cv, h3.sp k⟩, ⟨Aw', cw', Av', cv', h4.sp k⟩, hle⟩
end
/-- What waits at a PDO that is set at once. -/
theorem recv_waits {l : List Ent.En} {v : Nat} {t : Int} {ws : List Nat} {waits : List Dc.Vl} {fid : Int} {rem : Bool} {b : List UInt8} : (t ≤ 240 → (Rp.recvS l v t ws waits fid rem b).1 = []) ∧ (240 < t → waits = [] → (Rp.recvS l v t ws waits fid rem b).2.2 = []) := by
  unfold Rp.recvS
  refine ⟨fun h => ?_, fun h hw => ?_⟩
  · simp only [h, if_true]
    repeat' split
    all_goals rfl
  · subst hw
    simp only [show ¬ t ≤ 240 by omega, if_false]
    repeat' split
    all_goals rfl
/-- Values of a frame are short. -/
theorem recv_small {l : List Ent.En} {v : Nat} {t : Int} {ws : List Nat} {waits : List Dc.Vl} {fid : Int} {rem : Bool} {b : List UInt8} : ∀ x ∈ (Rp.recvS l v t ws waits fid rem b).1, x.data.length ≤ 32 := by
  intro x hx
  have hs := Mp.scatter_small l ws b x
  unfold Rp.recvS at hx
  by_cases h1 : Cob.pdo v = 0 ∨ fid ≠ (Cob.pdo v : Int) ∨ rem = true ∨ ws.length = 0
  · rw [if_pos h1] at hx; simp at hx
  · rw [if_neg h1] at hx
    by_cases h2 : (Mp.scatterS l ws b).2 = 0
    · rw [if_pos h2] at hx
      by_cases h3 : t ≤ 240
      · rw [if_pos h3] at hx; simp at hx
      · rw [if_neg h3] at hx; exact hs hx
    · rw [if_neg h2] at hx
      by_cases h3 : (Mp.scatterS l ws b).2 = 2
      · rw [if_pos h3] at hx; simp at hx
      · rw [if_neg h3] at hx
        by_cases h4 : (Mp.scatterS l ws b).2 = 9
        · rw [if_pos h4] at hx; simp at hx
        · rw [if_neg h4] at hx; simp at hx
end Go.Proofs.YtkddillihhjghaaGreat
/-
  Walk: Same of layer 15's reference, of two lists of values that are alike.
  Conditions: none.
-/
namespace Go.Proofs.YtkddillihhjghaaGreat
set_option linter.unusedVariables false
set_option linter.unusedSimpArgs false
open Go.RowKit
set_option maxRecDepth 100000 in
set_option maxHeartbeats 4000000 in
theorem VSame_any {A : Option Addr} {n c B B0 : Nat} {fs : List Dc.Vl} {A' : Option Addr} {c' B' B1 : Nat} (w : World) (h : RVl w B B0 A n c fs) (h' : RVl w B' B1 A' n c' fs) (hB : B ≤ w.heap.size) (hB' : B' ≤ w.heap.size) (hB0 : B0 ≤ w.heap.size) (hB1 : B1 ≤ w.heap.size) :
    Calls Tryz.prog 16 #[.slice A n c, .slice A' n c'] w fun e w' => e = .returned (.bool true) ∧ Below w.heap.size w w' := by
  have hn := h.lt
  go_enter Tryz.func16, Tryz.ntmps16
  go_wp2_with fail
  go_loopw [5] (fun i wr => ∃ k : Nat, k ≤ n ∧ i = .int .i64 k ∧ Below w.heap.size w wr) (fun i _ => n - (intOf i).toNat)
  case atStart => exact ⟨0, by omega, rfl, Below.refl _ _⟩
  case round =>
    obtain ⟨k, hk, rfl, hbel⟩ := hrel
    by_cases hlt : k < n
    · obtain ⟨b, o, A1, n1, c1, rfl, hbB, q0, q1, q2, hr⟩ := h.at_ hlt
      obtain ⟨b', o', A2, n2, c2, rfl, hbB', q0', q1', q2', hr'⟩ := h'.at_ hlt
      generalize fs.getD k vl0 = f at *
      obtain ⟨fi, fr, fd⟩ := f
      dsimp only at *
      replace q0 := cell_regrown ((hbel.cell (p := ⟨b, o + k * 3, none⟩) (Nat.lt_of_lt_of_le hbB hB)).trans q0)
      replace q1 := cell_regrown ((hbel.cell (p := ⟨b, o + k * 3 + 1, none⟩) (Nat.lt_of_lt_of_le hbB hB)).trans q1)
      replace q2 := cell_regrown ((hbel.cell (p := ⟨b, o + k * 3 + 2, none⟩) (Nat.lt_of_lt_of_le hbB hB)).trans q2)
      replace q0' := cell_regrown ((hbel.cell (p := ⟨b', o' + k * 3, none⟩) (Nat.lt_of_lt_of_le hbB' hB')).trans q0')
      replace q1' := cell_regrown ((hbel.cell (p := ⟨b', o' + k * 3 + 1, none⟩) (Nat.lt_of_lt_of_le hbB' hB')).trans q1')
      replace q2' := cell_regrown ((hbel.cell (p := ⟨b', o' + k * 3 + 2, none⟩) (Nat.lt_of_lt_of_le hbB' hB')).trans q2')
      have e1 := convb_grow (hr.below (hbel.mono hB0)) (Nat.le_trans hB0 hbel.size)
      have e2 := convb_grow (hr'.below (hbel.mono hB1)) (Nat.le_trans hB1 hbel.size)
      have g1 : (fi != fi) = false := by simp
      have g2 : (fr != fr) = false := by simp
      have i0 : (0 : Int) ≤ (k : Int) := by omega
      have i1 : (k : Int) < (n : Int) := by omega
      clear hr hr'
      go_wp2_with fail
      refine region_later (by kernel_rfl) ?_
      refine phase_later (by kernel_rfl) 0 (below_drew _) [0, 1, 5, 6, 2, 7, 3, 8, 4, 9, 10, 11, 12, 13, 17, 18, 14, 19, 15, 20, 16, 21, 22, 23, 24, 25, 26, 31, 32, 27, 33, 28, 34, 29, 35, 30, 36, 37, 38] rfl (by kernel_rfl) ?_
      simp only [picks, nth]
      repeat (go_big_quiet_step (fail))
      refine wpQuiet_nil ?_
      refine phase_end (by kernel_rfl) ?_
      have d1 := below_step hbel (below_drew wr) (Nat.le_refl _)
      clear q0 q1 q2 q0' q1' q2' e1 e2
      go_wp2_with fail
      go_roundw
      case rel => exact ⟨k + 1, by omega, by go_num, d1⟩
      case measure => simp [intOf] <;> omega
    · obtain rfl : k = n := by omega
      go_wp2_with fail
      go_ret
      exact ⟨rfl, hbel⟩
end Go.Proofs.YtkddillihhjghaaGreat
