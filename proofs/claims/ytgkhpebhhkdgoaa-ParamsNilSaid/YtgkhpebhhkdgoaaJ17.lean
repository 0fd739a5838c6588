/-
  Texts joined: PrmGd2.
  Conditions: none.
-/
import Derived.Test.YtgkhpebhhkdgoaaJ10
import Derived.Test.YtgkhpebhhkdgoaaJ16
import Derived.Deep.DeepCutAuto
import Derived.Deep.CutBlock
import Derived.Laws.EntriesVeiled
/-
  Walk: Guard of layer 33.
  Conditions: none.
-/
namespace Go.Proofs.Ytgkhpebhhkdgoaa.Pm
set_option linter.unusedVariables false
set_option linter.unusedSimpArgs false
open Ent Dc
def loS (m : Nat) : Int := [4099, 4101, 4121, 4112, 4113, 4118, 5120, 6144, 5632, 6656].getD m 0
def hiS (m : Nat) : Int := [4099, 4101, 4121, 4112, 4113, 4118, 5123, 6147, 5635, 6659].getD m 0
section
variable {D X : Dic} {i j : Int}
theorem ask_free (h : ∀ m, m < 10 → ¬ (loS m ≤ i ∧ i ≤ hiS m)) : askS D X i j = some 0 := by
  have h0 : ¬ ((4099 : Int) ≤ i ∧ i ≤ 4099) := h 0 (by decide)
  have h1 : ¬ ((4101 : Int) ≤ i ∧ i ≤ 4101) := h 1 (by decide)
  have h2 : ¬ ((4121 : Int) ≤ i ∧ i ≤ 4121) := h 2 (by decide)
  have h3 : ¬ ((4112 : Int) ≤ i ∧ i ≤ 4112) := h 3 (by decide)
  have h4 : ¬ ((4113 : Int) ≤ i ∧ i ≤ 4113) := h 4 (by decide)
  have h5 : ¬ ((4118 : Int) ≤ i ∧ i ≤ 4118) := h 5 (by decide)
  have h6 : ¬ ((5120 : Int) ≤ i ∧ i ≤ 5123) := h 6 (by decide)
  have h7 : ¬ ((6144 : Int) ≤ i ∧ i ≤ 6147) := h 7 (by decide)
  have h8 : ¬ ((5632 : Int) ≤ i ∧ i ≤ 5635) := h 8 (by decide)
  have h9 : ¬ ((6656 : Int) ≤ i ∧ i ≤ 6659) := h 9 (by decide)
  unfold askS
  rw [if_neg (by omega), if_neg (by omega), if_neg (by omega), if_neg h6, if_neg h7, if_neg h8, if_neg h9]
theorem ask_none (h : i = 4099 ∨ i = 4101 ∨ i = 4121 ∨ i = 4118) : askS D X i j = none := by
  unfold askS
  rw [if_neg (by omega), if_neg (by omega), if_pos h]
theorem ask_save (h : 4112 ≤ i ∧ i ≤ 4112) : askS D X i j = some (signedS X i j 1702257011) := by
  unfold askS
  rw [if_pos (by omega)]
theorem ask_load (h : 4113 ≤ i ∧ i ≤ 4113) : askS D X i j = some (signedS X i j 1684107116) := by
  unfold askS
  rw [if_neg (by omega), if_pos (by omega)]
theorem ask_in (h : 5120 ≤ i ∧ i ≤ 5123) : askS D X i j = some (inS X (i - 5120)) := by
  unfold askS
  rw [if_neg (by omega), if_neg (by omega), if_neg (by omega), if_pos h]
theorem ask_out (h : 6144 ≤ i ∧ i ≤ 6147) : askS D X i j = some (outS X (i - 6144)) := by
  unfold askS
  rw [if_neg (by omega), if_neg (by omega), if_neg (by omega), if_neg (by omega), if_pos h]
theorem ask_mi (h : 5632 ≤ i ∧ i ≤ 5635) : askS D X i j = some (mappedS D X i j 512 (inS X (i - 5632))) := by
  unfold askS
  rw [if_neg (by omega), if_neg (by omega), if_neg (by omega), if_neg (by omega), if_neg (by omega), if_pos h]
theorem ask_mo (h : 6656 ≤ i ∧ i ≤ 6659) : askS D X i j = some (mappedS D X i j 512 (outS X (i - 6656))) := by
  unfold askS
  rw [if_neg (by omega), if_neg (by omega), if_neg (by omega), if_neg (by omega), if_neg (by omega), if_neg (by omega), if_pos h]
end
end Go.Proofs.Ytgkhpebhhkdgoaa.Pm
namespace Go.Proofs.Ytgkhpebhhkdgoaa
set_option linter.unusedVariables false
set_option linter.unusedSimpArgs false
open Go.RowKit Go.Sort
/-- The value that is to be set, beside the dictionary that was copied. -/
def GrdRel (w : World) (m gd : Nat) (i j : Int) (A : Option Addr) (n c : Nat) (D : Dc.Dic) (v : Value) (wx : World) : Prop :=
  ∃ (q gx : Nat) (F : Nat → Prop) (gv lc vc : Nat) (la : Addr) (vA : Option Addr) (xs vs : List Value), v = .pointer (some ⟨q, 0, none⟩) ∧ Below m w wx ∧ m ≤ q ∧ Blk wx q 65 (WrV gd gx i j A n c) ∧ DRt 73 wx F gx gv (some la) lc vA vc xs vs D ∧ ∀ b, F b → m ≤ b ∧ b < wx.heap.size ∧ b ≠ q
set_option maxRecDepth 100000 in
set_option maxHeartbeats 8000000 in
theorem Guard_any {F : Nat → Prop} {w : World} {g gv lc vc : Nat} {la : Addr} {vA : Option Addr} {xs vs : List Value} {D : Dc.Dic} {A : Option Addr} {n c B : Nat} {b : List UInt8} (i j : Int) (h : DRt 73 w F g gv (some la) lc vA vc xs vs D) (hd : ∀ e ∈ D.l, e.dflt.length ≤ 1000000) (hf : Dc.Fine D) (hb : RB w B A n c b) (hB : B ≤ w.heap.size) (hn : n ≤ 1000) :
    Calls Try.prog 12 #[.pointer (some ⟨g, 0, none⟩), .agg #[.int .i64 i, .int .i64 j, .slice A n c]] w fun e w' => (∃ r : Int, e = .returned (.int .u32 r) ∧ Pm.Guards D i j b r) ∧ Below w.heap.size w w' := by
  have hv : ∀ v ∈ D.v, v.length ≤ 1000000 := fun v hv => by have := hf.sm v hv; omega
  have b0 := alloc_one w (.cells #[.int .i64 i, .int .i64 j, .slice A n c] 24)
  have K0 := Blk.new w 24 #[.int .i64 i, .int .i64 j, .slice A n c]
  have F0 := K0.three
  have MA := dMay_any i j (h.below b0) (hb.below (b0.mono hB)) (Nat.le_trans hB b0.size)
  by_cases hm : Dc.mayS D.l false i j b = 0
  case neg =>
    have HG := Lib.hid (show Pm.Guards D i j b (Dc.mayS D.l false i j b) by unfold Pm.Guards; rw [if_pos hm])
    generalize Dc.mayS D.l false i j b = r at *
    have hr1 : (r == 0) = false := by simpa using hm
    have hr2 : (r != 0) = true := by simpa using hm
    clear hm h hd hf hb hv
    replace MA := Lib.hid MA
    go_enter Try.func12, Try.ntmps12
    go_wp2_with fail
    refine (MA.out).mono ?_
    rintro e w1 ⟨rfl, b1⟩
    go_wp2_with fail
    go_ret
    exact ⟨⟨r, rfl, HG.out⟩, below_step b0 b1 (Nat.le_refl _)⟩
  rw [hm] at MA
  have HG := Lib.hid (fun (r : Int) (hr : ∀ r', Pm.askS D (Dc.pokeS D i j b) i j = some r' → r = r') => show Pm.Guards D i j b r by unfold Pm.Guards; rw [if_neg (by rw [hm]; decide)]; exact hr)
  replace MA := Lib.hid MA
  clear hm
  go_enter Try.func12, Try.ntmps12
  go_wp2_with fail
  refine (MA.out).mono ?_
  rintro e w1 ⟨rfl, b1⟩
  have d1 := below_step b0 b1 (Nat.le_refl _)
  have K1 := K0.later b1
  have F1 := K1.three
  clear F0
  have hD1 := h.below d1
  have g0 := cell_regrown F1.1
  have g1 := cell_regrown F1.2.1
  have g2 := cell_regrown F1.2.2.1
  have CP := Lib.hid (fun (w2 : World) (hb : Below w1.heap.size w1 w2) => dCopy_any (hD1.below hb) hd hv)
  go_upto_region 4 with fail
  go_cut [6] from 20 to 24 (fun v wx => GrdRel w1 w1.heap.size g i j A n c D v wx)
  case first =>
    refine region_later (by kernel_rfl) ?_
    refine phase_later (by kernel_rfl) 4 (below_drew _) [0, 1, 3] rfl (by kernel_rfl) ?_
    simp only [picks, nth]
    repeat (go_big_quiet_step (fail))
    refine wpQuiet_nil ?_
    refine phase_two 2 5 3 rfl (by kernel_rfl) (by decide) (by decide) ?_ ?_
    · simp only [nth]
      go_wp2_with fail
      refine (CP.out _ (below_drew w1)).mono ?_
      rintro e w3 ⟨b3, gx, gv', lc', vc', la', vA', xs', vs', rfl, hx⟩
      have b13 : Below w1.heap.size w1 w3 := (below_drew w1).trans b3
      go_wp2_with fail
      refine behind_since b13 ?_
      refine phase_later (by kernel_rfl) 2 b13 [4] rfl (by kernel_rfl) ?_
      simp only [picks, nth]
      repeat (go_big_quiet_step (fail))
      refine wpQuiet_nil ?_
      refine phase_op 5 1 rfl (by kernel_rfl) (by decide) ?_
      simp only [nth]
      go_wp2_with fail
      have b4 := alloc_one w3 (.cells #[.pointer none, .pointer none, .int .i64 0, .int .i64 0, .slice none 0 0] 65)
      have K4 := Blk.new w3 65 #[.pointer none, .pointer none, .int .i64 0, .int .i64 0, .slice none 0 0]
      have F4 := K4.cin
      have b14 := below_step b13 b4 (Nat.le_refl _)
      refine behind_since b14 ?_
      refine phase_op 6 0 rfl (by kernel_rfl) (by decide) ?_
      simp only [nth]
      go_wp2_with fail
      have K5 := Blk.new w3 65 (WrV g gx i j A n c)
      have b5 := alloc_one w3 (.cells (WrV g gx i j A n c) 65)
      unfold WrV at b5
      have b15 := below_step b13 b5 (Nat.le_refl _)
      refine behind_since b15 ?_
      refine phase_end (by kernel_rfl) ?_
      go_wp2_with fail
      go_meet
      exact ⟨w3.heap.size, gx, _, gv', lc', vc', la', vA', xs', vs', rfl, b15, b13.size, K5, hx.cut.below b5, fun q hq => ⟨by have := hq.1; have e : w1.heap.size ≤ q := this; exact e, by have := hq.2; simp; omega, by have := hq.2; omega⟩⟩
    · simp only [nth]
      go_wp2_with fail
      have b4 := alloc_one w1.drew (.cells #[.pointer none, .pointer none, .int .i64 0, .int .i64 0, .slice none 0 0] 65)
      have K4 : Blk (w1.drew.alloc (.cells #[.pointer none, .pointer none, .int .i64 0, .int .i64 0, .slice none 0 0] 65)) w1.heap.size 65 #[.pointer none, .pointer none, .int .i64 0, .int .i64 0, .slice none 0 0] := Blk.new w1.drew 65 #[.pointer none, .pointer none, .int .i64 0, .int .i64 0, .slice none 0 0]
      have b14 : Below w1.heap.size w1 (w1.drew.alloc (.cells #[.pointer none, .pointer none, .int .i64 0, .int .i64 0, .slice none 0 0] 65)) := (below_drew w1).trans b4
      refine behind_since b14 ?_
      refine phase_op 2 2 rfl (by kernel_rfl) (by decide) ?_
      simp only [nth]
      go_wp2_with fail
      refine (CP.out _ b14).mono ?_
      rintro e w3 ⟨b3, gx, gv', lc', vc', la', vA', xs', vs', rfl, hx⟩
      have b13 := below_step b14 b3 (Nat.le_refl _)
      have K3 := K4.later b3
      have F3 := K3.cin
      go_wp2_with fail
      refine behind_since b13 ?_
      refine phase_later (by kernel_rfl) 1 b13 [4] rfl (by kernel_rfl) ?_
      simp only [picks, nth]
      repeat (go_big_quiet_step (fail))
      refine wpQuiet_nil ?_
      refine phase_op 6 0 rfl (by kernel_rfl) (by decide) ?_
      simp only [nth]
      go_wp2_with fail
      have K5 := K3.store5 (.pointer (some ⟨g, 0, none⟩)) (.pointer (some ⟨gx, 0, none⟩)) (.int .i64 i) (.int .i64 j) (.slice A n c)
      have b15 := below_set5 b13 (Nat.le_refl w1.heap.size) (.pointer (some ⟨g, 0, none⟩)) (.pointer (some ⟨gx, 0, none⟩)) (.int .i64 i) (.int .i64 j) (.slice A n c)
      have m5 : Mv (fun q => q = w1.heap.size) w3 (((((w3.setCell ⟨w1.heap.size, 0, none⟩ (.pointer (some ⟨g, 0, none⟩))).setCell ⟨w1.heap.size, 1, none⟩ (.pointer (some ⟨gx, 0, none⟩))).setCell ⟨w1.heap.size, 2, none⟩ (.int .i64 i)).setCell ⟨w1.heap.size, 3, none⟩ (.int .i64 j)).setCell ⟨w1.heap.size, 4, none⟩ (.slice A n c)) := ((((Mv.setCell w3 ⟨w1.heap.size, 0, none⟩ _).trans (Mv.setCell _ ⟨w1.heap.size, 1, none⟩ _) fun _ _ e => e).trans (Mv.setCell _ ⟨w1.heap.size, 2, none⟩ _) fun _ _ e => e).trans (Mv.setCell _ ⟨w1.heap.size, 3, none⟩ _) fun _ _ e => e).trans (Mv.setCell _ ⟨w1.heap.size, 4, none⟩ _) fun _ _ e => e
      have hz4 : (w1.drew.alloc (.cells #[.pointer none, .pointer none, .int .i64 0, .int .i64 0, .slice none 0 0] 65)).heap.size = w1.heap.size + 1 := by simp
      refine behind_since b15 ?_
      refine phase_end (by kernel_rfl) ?_
      go_wp2_with fail
      go_meet
      exact ⟨w1.heap.size, gx, _, gv', lc', vc', la', vA', xs', vs', rfl, b15, Nat.le_refl _, K5, hx.cut.mv m5 (fun q _ hq e => by have := hq.1; omega), fun q hq => ⟨by have := hq.1; omega, Nat.lt_of_lt_of_le hq.2 m5.size, by have := hq.1; omega⟩⟩
  case rest =>
    clear K0 g0 g1 g2 MA
    obtain ⟨q, gx, F', gv', lc', vc', la', vA', xs', vs', rfl, b2, hq, KW, hX, hF'⟩ := hcut
    obtain ⟨w2, hw2⟩ : ∃ w, w = wc := ⟨wc, rfl⟩
    subst hw2
    have d2 := below_step d1 b2 (Nat.le_refl _)
    have K2 := K1.later b2
    have F2 := K2.three
    have FW := (show Blk w2 q 65 #[.pointer (some ⟨g, 0, none⟩), .pointer (some ⟨gx, 0, none⟩), .int .i64 i, .int .i64 j, .slice A n c] from KW).cin
    have hk1 := K1.lt
    have PO := Lib.hid (One.poke (base := w1.heap.size) (F := F') ⟨gv', lc', vc', la', vA', xs', vs', hX, fun b hb => ⟨(hF' b hb).1, (hF' b hb).2.1⟩⟩ b2.size i j (hb.below (d2.mono hB)) (Nat.le_trans hB d2.size) (by omega))
    clear F1
    go_wp2_with fail
    refine (PO.out).mono ?_
    rintro e w3 ⟨rfl, m3, b3, gv3, lc3, vc3, la3, vA3, xs3, vs3, hX3, _⟩
    have d3 : Below w.heap.size w w3 := d2.trans (b3.mono d1.size)
    have K3 := K2.mv m3 fun e => by have := (hF' _ e).1; omega
    have KW3 := KW.mv m3 fun e => (hF' _ e).2.2 rfl
    have hdX : ∀ e ∈ (Dc.pokeS D i j b).l, e.dflt.length ≤ 1000000 := by rw [Dc.poke_l]; exact hd
    have hfX := hf.poke i j (b := b) (by have := hb.len; omega)
    have hvX : ∀ v ∈ (Dc.pokeS D i j b).v, v.length ≤ 1000000 := fun v hv => by have := hfX.sm v hv; omega
    have hD3 := h.below d3
    have HF := Lib.hid (fun (h : ∀ m, m < 10 → ¬ (Pm.loS m ≤ i ∧ i ≤ Pm.hiS m)) => HG.out 0 fun r hr => by rw [Pm.ask_free h] at hr; injection hr)
    have HNO := Lib.hid (fun (h : i = 4099 ∨ i = 4101 ∨ i = 4121 ∨ i = 4118) (z : Int) => HG.out z fun r hr => by rw [Pm.ask_none h] at hr; cases hr)
    have HS0 := Lib.hid (fun (h : 4112 ≤ i ∧ i ≤ 4112) => HG.out _ fun r hr => by rw [Pm.ask_save h] at hr; injection hr)
    have HS1 := Lib.hid (fun (h : 4113 ≤ i ∧ i ≤ 4113) => HG.out _ fun r hr => by rw [Pm.ask_load h] at hr; injection hr)
    have HIN := Lib.hid (fun (h : 5120 ≤ i ∧ i ≤ 5123) => HG.out _ fun r hr => by rw [Pm.ask_in h] at hr; injection hr)
    have HOU := Lib.hid (fun (h : 6144 ≤ i ∧ i ≤ 6147) => HG.out _ fun r hr => by rw [Pm.ask_out h] at hr; injection hr)
    have HMI := Lib.hid (fun (h : 5632 ≤ i ∧ i ≤ 5635) => HG.out _ fun r hr => by rw [Pm.ask_mi h] at hr; injection hr)
    have HMO := Lib.hid (fun (h : 6656 ≤ i ∧ i ≤ 6659) => HG.out _ fun r hr => by rw [Pm.ask_mo h] at hr; injection hr)
    generalize Dc.pokeS D i j b = X at *
    clear PO F2 FW K2 KW hX h hfX
    go_wp2_with fail
    refine (rules_any w3).mono ?_
    rintro e w4 ⟨rfl, b4, RM⟩
    have d4 := below_step d3 b4 (Nat.le_refl _)
    have K4 := K3.later b4
    have KW4 : Blk w4 q 65 #[.pointer (some ⟨g, 0, none⟩), .pointer (some ⟨gx, 0, none⟩), .int .i64 i, .int .i64 j, .slice A n c] := KW3.later b4
    have hD4 := hD3.below b4
    have hX4 := hX3.below b4
    have hRl := RM.lt
    have WI := fun (w5 : World) (hb5 : Below w4.heap.size w4 w5) => wiped_any (A := A) (n := n) (c := c) (gd := g) i j (hX4.below hb5) hdX hvX
    have PU := fun (w5 : World) (hb5 : Below w4.heap.size w4 w5) => pulses_any (A := A) (n := n) (c := c) (gd := g) i j (hX4.below hb5) hdX hvX
    have PE := fun (w5 : World) (hb5 : Below w4.heap.size w4 w5) => peers_any (A := A) (n := n) (c := c) (gd := g) i j (hX4.below hb5) hdX hvX
    have S0 := fun (w5 : World) (hb5 : Below w4.heap.size w4 w5) => signed_any (A := A) (n := n) (c := c) (gd := g) i j 1702257011 (q := w3.heap.size) ((RM.below hb5).b0.cell 0) (by have := hb5.size; omega) (hX4.below hb5) hdX hvX
    have S1 := fun (w5 : World) (hb5 : Below w4.heap.size w4 w5) => signed_any (A := A) (n := n) (c := c) (gd := g) i j 1684107116 (q := w3.heap.size + 1) ((RM.below hb5).b1.cell 0) (by have := hb5.size; omega) (hX4.below hb5) hdX hvX
    have IN := fun (w5 : World) (hb5 : Below w4.heap.size w4 w5) (hi : 5120 ≤ i ∧ i ≤ 5123) => in_any (A := A) (n := n) (c := c) (gd := g) i j (.inl hi) (k := i - 5120) (by rw [if_pos hi.2]) (hX4.below hb5) hdX hvX
    have OU := fun (w5 : World) (hb5 : Below w4.heap.size w4 w5) (hi : 6144 ≤ i ∧ i ≤ 6147) => out_any (A := A) (n := n) (c := c) (gd := g) i j (.inl hi) (k := i - 6144) (by rw [if_pos hi.2]) (hX4.below hb5) hdX hvX
    have MI := fun (w5 : World) (hb5 : Below w4.heap.size w4 w5) (hi : 5632 ≤ i ∧ i ≤ 5635) => mapped_in (A := A) (n := n) (c := c) i j hi (q1 := w3.heap.size + 1 + 1) (q2 := w3.heap.size + 1 + 1 + 1) ((RM.below hb5).b2.cell 0) ((RM.below hb5).b3.cell 0) (by have := hb5.size; omega) (by have := hb5.size; omega) (hD4.below hb5) hd hv (hX4.below hb5) hdX hvX
    have MO := fun (w5 : World) (hb5 : Below w4.heap.size w4 w5) (hi : 6656 ≤ i ∧ i ≤ 6659) => mapped_out (A := A) (n := n) (c := c) i j hi (q1 := w3.heap.size + 1 + 1 + 1 + 1) (q2 := w3.heap.size + 1 + 1 + 1 + 1 + 1) ((RM.below hb5).b4.cell 0) ((RM.below hb5).b5.cell 0) (by have := hb5.size; omega) (by have := hb5.size; omega) (hD4.below hb5) hd hv (hX4.below hb5) hdX hvX
    unfold WrV at WI PU PE S0 S1 IN OU MI MO
    replace WI := Lib.hid WI; replace PU := Lib.hid PU; replace PE := Lib.hid PE; replace S0 := Lib.hid S0; replace S1 := Lib.hid S1; replace IN := Lib.hid IN; replace OU := Lib.hid OU; replace MI := Lib.hid MI; replace MO := Lib.hid MO
    have eg1 : ∀ args w, (callFunc 37 args).run Try.prog w = .ok (.enter 37 args) w := fun args w => by kernel_rfl
    have eg2 : ∀ args w, (callFunc 38 args).run Try.prog w = .ok (.enter 38 args) w := fun args w => by kernel_rfl
    have eg3 : ∀ args w, (callFunc 58 args).run Try.prog w = .ok (.enter 58 args) w := fun args w => by kernel_rfl
    have eg4 : ∀ args w, (callFunc 40 args).run Try.prog w = .ok (.enter 40 args) w := fun args w => by kernel_rfl
    have eg5 : ∀ args w, (callFunc 41 args).run Try.prog w = .ok (.enter 41 args) w := fun args w => by kernel_rfl
    have eg6 : ∀ args w, (callFunc 42 args).run Try.prog w = .ok (.enter 42 args) w := fun args w => by kernel_rfl
    have eg7 : ∀ args w, (callFunc 63 args).run Try.prog w = .ok (.enter 63 args) w := fun args w => by kernel_rfl
    clear hD3 hX3 K3 KW3 hD4 hX4 hd hv hdX hvX hb hf hF' m3 b3 b2 b4
    go_wp2_with fail
    go_loopw [36] (fun v wr => ∃ k : Nat, k ≤ 10 ∧ v = .int .i64 k ∧ Below w4.heap.size w4 wr ∧ ∀ m, m < k → ¬ (Pm.loS m ≤ i ∧ i ≤ Pm.hiS m)) (fun v _ => 10 - (intOf v).toNat)
    case atStart => exact ⟨0, by omega, rfl, Below.refl _ _, fun m hm => absurd hm (by omega)⟩
    case round =>
      obtain ⟨k, hk, rfl, br, hno⟩ := hrel
      obtain ⟨wq, hwq⟩ : ∃ w, w = wr := ⟨wr, rfl⟩
      subst hwq
      have HNOT := Lib.hid hno
      clear hno
      have dr := below_step d4 br (Nat.le_refl _)
      have Kr := (K4.later br).three
      have RR := RM.below br
      have hql : q < wq.heap.size := Nat.lt_of_lt_of_le KW4.lt br.size
      by_cases hk9 : k < 10
      · rcases (show k = 0 ∨ k = 1 ∨ k = 2 ∨ k = 3 ∨ k = 4 ∨ k = 5 ∨ k = 6 ∨ k = 7 ∨ k = 8 ∨ k = 9 by omega) with rfl | rfl | rfl | rfl | rfl | rfl | rfl | rfl | rfl | rfl
        · have r0 : wq.cell? ⟨w3.heap.size + 1 + 1 + 1 + 1 + 1 + 1, 0, none⟩ = some (.int .i64 4099) := RR.blk.cell 0
          have r1 : wq.cell? ⟨w3.heap.size + 1 + 1 + 1 + 1 + 1 + 1, 1, none⟩ = some (.int .i64 4099) := RR.blk.cell 1
          have r2 : wq.cell? ⟨w3.heap.size + 1 + 1 + 1 + 1 + 1 + 1, 2, none⟩ = some (.func (.func 37) #[] #[]) := RR.blk.cell 2
          have ba := alloc_one wq (.cells #[.int .i64 4099, .int .i64 4099, .func (.func 37) #[] #[]] 70)
          have KB := (Blk.new wq 70 #[.int .i64 4099, .int .i64 4099, .func (.func 37) #[] #[]]).three
          have Ka := ((K4.later br).later ba).three
          have FWa := ((KW4.later br).later ba).cin
          have da := below_step dr ba (Nat.le_refl _)
          have bra := below_step br ba (Nat.le_refl _)
          clear Kr RR
          by_cases hin : 4099 ≤ i ∧ i ≤ 4099
          · have CC := Lib.hid (WI.out _ bra)
            have HC := Lib.hid (fun z => HNO.out (by omega) z)
            obtain ⟨hin1, hin2⟩ := hin
            go_wp2_with fail
            refine (CC.out).mono ?_
            rintro e w6 ⟨⟨z, rfl⟩, b6⟩
            go_wp2_with fail
            go_ret
            exact ⟨⟨z, rfl, HC.out z⟩, below_step da b6 (Nat.le_refl _)⟩
          · have HNX := Lib.hid (show ∀ m, m < 1 → ¬ (Pm.loS m ≤ i ∧ i ≤ Pm.hiS m) from fun m hm => by
              rcases Nat.lt_or_ge m 0 with h | h
              · exact HNOT.out m h
              · obtain rfl : m = 0 := by omega
                exact hin)
            by_cases hlo : i < 4099
            · clear hin
              go_wp2_with fail
              go_roundw
              case rel => exact ⟨1, by omega, rfl, bra, HNX.out⟩
              case measure => simp [intOf]
            · have hhi : 4099 < i := by omega
              clear hin
              go_wp2_with fail
              go_roundw
              case rel => exact ⟨1, by omega, rfl, bra, HNX.out⟩
              case measure => simp [intOf]
        · have r0 : wq.cell? ⟨w3.heap.size + 1 + 1 + 1 + 1 + 1 + 1, 3, none⟩ = some (.int .i64 4101) := RR.blk.cell 3
          have r1 : wq.cell? ⟨w3.heap.size + 1 + 1 + 1 + 1 + 1 + 1, 4, none⟩ = some (.int .i64 4101) := RR.blk.cell 4
          have r2 : wq.cell? ⟨w3.heap.size + 1 + 1 + 1 + 1 + 1 + 1, 5, none⟩ = some (.func (.func 38) #[] #[]) := RR.blk.cell 5
          have ba := alloc_one wq (.cells #[.int .i64 4101, .int .i64 4101, .func (.func 38) #[] #[]] 70)
          have KB := (Blk.new wq 70 #[.int .i64 4101, .int .i64 4101, .func (.func 38) #[] #[]]).three
          have Ka := ((K4.later br).later ba).three
          have FWa := ((KW4.later br).later ba).cin
          have da := below_step dr ba (Nat.le_refl _)
          have bra := below_step br ba (Nat.le_refl _)
          clear Kr RR
          by_cases hin : 4101 ≤ i ∧ i ≤ 4101
          · have CC := Lib.hid (PU.out _ bra)
            have HC := Lib.hid (fun z => HNO.out (by omega) z)
            obtain ⟨hin1, hin2⟩ := hin
            go_wp2_with fail
            refine (CC.out).mono ?_
            rintro e w6 ⟨⟨z, rfl⟩, b6⟩
            go_wp2_with fail
            go_ret
            exact ⟨⟨z, rfl, HC.out z⟩, below_step da b6 (Nat.le_refl _)⟩
          · have HNX := Lib.hid (show ∀ m, m < 2 → ¬ (Pm.loS m ≤ i ∧ i ≤ Pm.hiS m) from fun m hm => by
              rcases Nat.lt_or_ge m 1 with h | h
              · exact HNOT.out m h
              · obtain rfl : m = 1 := by omega
                exact hin)
            by_cases hlo : i < 4101
            · clear hin
              go_wp2_with fail
              go_roundw
              case rel => exact ⟨2, by omega, rfl, bra, HNX.out⟩
              case measure => simp [intOf]
            · have hhi : 4101 < i := by omega
              clear hin
              go_wp2_with fail
              go_roundw
              case rel => exact ⟨2, by omega, rfl, bra, HNX.out⟩
              case measure => simp [intOf]
        · have r0 : wq.cell? ⟨w3.heap.size + 1 + 1 + 1 + 1 + 1 + 1, 6, none⟩ = some (.int .i64 4121) := RR.blk.cell 6
          have r1 : wq.cell? ⟨w3.heap.size + 1 + 1 + 1 + 1 + 1 + 1, 7, none⟩ = some (.int .i64 4121) := RR.blk.cell 7
          have r2 : wq.cell? ⟨w3.heap.size + 1 + 1 + 1 + 1 + 1 + 1, 8, none⟩ = some (.func (.func 38) #[] #[]) := RR.blk.cell 8
          have ba := alloc_one wq (.cells #[.int .i64 4121, .int .i64 4121, .func (.func 38) #[] #[]] 70)
          have KB := (Blk.new wq 70 #[.int .i64 4121, .int .i64 4121, .func (.func 38) #[] #[]]).three
          have Ka := ((K4.later br).later ba).three
          have FWa := ((KW4.later br).later ba).cin
          have da := below_step dr ba (Nat.le_refl _)
          have bra := below_step br ba (Nat.le_refl _)
          clear Kr RR
          by_cases hin : 4121 ≤ i ∧ i ≤ 4121
          · have CC := Lib.hid (PU.out _ bra)
            have HC := Lib.hid (fun z => HNO.out (by omega) z)
            obtain ⟨hin1, hin2⟩ := hin
            go_wp2_with fail
            refine (CC.out).mono ?_
            rintro e w6 ⟨⟨z, rfl⟩, b6⟩
            go_wp2_with fail
            go_ret
            exact ⟨⟨z, rfl, HC.out z⟩, below_step da b6 (Nat.le_refl _)⟩
          · have HNX := Lib.hid (show ∀ m, m < 3 → ¬ (Pm.loS m ≤ i ∧ i ≤ Pm.hiS m) from fun m hm => by
              rcases Nat.lt_or_ge m 2 with h | h
              · exact HNOT.out m h
              · obtain rfl : m = 2 := by omega
                exact hin)
            by_cases hlo : i < 4121
            · clear hin
              go_wp2_with fail
              go_roundw
              case rel => exact ⟨3, by omega, rfl, bra, HNX.out⟩
              case measure => simp [intOf]
            · have hhi : 4121 < i := by omega
              clear hin
              go_wp2_with fail
              go_roundw
              case rel => exact ⟨3, by omega, rfl, bra, HNX.out⟩
              case measure => simp [intOf]
        · have r0 : wq.cell? ⟨w3.heap.size + 1 + 1 + 1 + 1 + 1 + 1, 9, none⟩ = some (.int .i64 4112) := RR.blk.cell 9
          have r1 : wq.cell? ⟨w3.heap.size + 1 + 1 + 1 + 1 + 1 + 1, 10, none⟩ = some (.int .i64 4112) := RR.blk.cell 10
          have r2 : wq.cell? ⟨w3.heap.size + 1 + 1 + 1 + 1 + 1 + 1, 11, none⟩ = some (.func (.func 58) #[] #[.pointer (some ⟨w3.heap.size, 0, none⟩)]) := RR.blk.cell 11
          have ba := alloc_one wq (.cells #[.int .i64 4112, .int .i64 4112, .func (.func 58) #[] #[.pointer (some ⟨w3.heap.size, 0, none⟩)]] 70)
          have KB := (Blk.new wq 70 #[.int .i64 4112, .int .i64 4112, .func (.func 58) #[] #[.pointer (some ⟨w3.heap.size, 0, none⟩)]]).three
          have Ka := ((K4.later br).later ba).three
          have FWa := ((KW4.later br).later ba).cin
          have da := below_step dr ba (Nat.le_refl _)
          have bra := below_step br ba (Nat.le_refl _)
          clear Kr RR
          by_cases hin : 4112 ≤ i ∧ i ≤ 4112
          · have CC := Lib.hid (S0.out _ bra)
            have HC := Lib.hid (HS0.out hin)
            obtain ⟨hin1, hin2⟩ := hin
            go_wp2_with fail
            refine (CC.out).mono ?_
            rintro e w6 ⟨rfl, b6⟩
            go_wp2_with fail
            go_ret
            exact ⟨⟨_, rfl, HC.out⟩, below_step da b6 (Nat.le_refl _)⟩
          · have HNX := Lib.hid (show ∀ m, m < 4 → ¬ (Pm.loS m ≤ i ∧ i ≤ Pm.hiS m) from fun m hm => by
              rcases Nat.lt_or_ge m 3 with h | h
              · exact HNOT.out m h
              · obtain rfl : m = 3 := by omega
                exact hin)
            by_cases hlo : i < 4112
            · clear hin
              go_wp2_with fail
              go_roundw
              case rel => exact ⟨4, by omega, rfl, bra, HNX.out⟩
              case measure => simp [intOf]
            · have hhi : 4112 < i := by omega
              clear hin
              go_wp2_with fail
              go_roundw
              case rel => exact ⟨4, by omega, rfl, bra, HNX.out⟩
              case measure => simp [intOf]
        · have r0 : wq.cell? ⟨w3.heap.size + 1 + 1 + 1 + 1 + 1 + 1, 12, none⟩ = some (.int .i64 4113) := RR.blk.cell 12
          have r1 : wq.cell? ⟨w3.heap.size + 1 + 1 + 1 + 1 + 1 + 1, 13, none⟩ = some (.int .i64 4113) := RR.blk.cell 13
          have r2 : wq.cell? ⟨w3.heap.size + 1 + 1 + 1 + 1 + 1 + 1, 14, none⟩ = some (.func (.func 58) #[] #[.pointer (some ⟨w3.heap.size + 1, 0, none⟩)]) := RR.blk.cell 14
          have ba := alloc_one wq (.cells #[.int .i64 4113, .int .i64 4113, .func (.func 58) #[] #[.pointer (some ⟨w3.heap.size + 1, 0, none⟩)]] 70)
          have KB := (Blk.new wq 70 #[.int .i64 4113, .int .i64 4113, .func (.func 58) #[] #[.pointer (some ⟨w3.heap.size + 1, 0, none⟩)]]).three
          have Ka := ((K4.later br).later ba).three
          have FWa := ((KW4.later br).later ba).cin
          have da := below_step dr ba (Nat.le_refl _)
          have bra := below_step br ba (Nat.le_refl _)
          clear Kr RR
          by_cases hin : 4113 ≤ i ∧ i ≤ 4113
          · have CC := Lib.hid (S1.out _ bra)
            have HC := Lib.hid (HS1.out hin)
            obtain ⟨hin1, hin2⟩ := hin
            go_wp2_with fail
            refine (CC.out).mono ?_
            rintro e w6 ⟨rfl, b6⟩
            go_wp2_with fail
            go_ret
            exact ⟨⟨_, rfl, HC.out⟩, below_step da b6 (Nat.le_refl _)⟩
          · have HNX := Lib.hid (show ∀ m, m < 5 → ¬ (Pm.loS m ≤ i ∧ i ≤ Pm.hiS m) from fun m hm => by
              rcases Nat.lt_or_ge m 4 with h | h
              · exact HNOT.out m h
              · obtain rfl : m = 4 := by omega
                exact hin)
            by_cases hlo : i < 4113
            · clear hin
              go_wp2_with fail
              go_roundw
              case rel => exact ⟨5, by omega, rfl, bra, HNX.out⟩
              case measure => simp [intOf]
            · have hhi : 4113 < i := by omega
              clear hin
              go_wp2_with fail
              go_roundw
              case rel => exact ⟨5, by omega, rfl, bra, HNX.out⟩
              case measure => simp [intOf]
        · have r0 : wq.cell? ⟨w3.heap.size + 1 + 1 + 1 + 1 + 1 + 1, 15, none⟩ = some (.int .i64 4118) := RR.blk.cell 15
          have r1 : wq.cell? ⟨w3.heap.size + 1 + 1 + 1 + 1 + 1 + 1, 16, none⟩ = some (.int .i64 4118) := RR.blk.cell 16
          have r2 : wq.cell? ⟨w3.heap.size + 1 + 1 + 1 + 1 + 1 + 1, 17, none⟩ = some (.func (.func 40) #[] #[]) := RR.blk.cell 17
          have ba := alloc_one wq (.cells #[.int .i64 4118, .int .i64 4118, .func (.func 40) #[] #[]] 70)
          have KB := (Blk.new wq 70 #[.int .i64 4118, .int .i64 4118, .func (.func 40) #[] #[]]).three
          have Ka := ((K4.later br).later ba).three
          have FWa := ((KW4.later br).later ba).cin
          have da := below_step dr ba (Nat.le_refl _)
          have bra := below_step br ba (Nat.le_refl _)
          clear Kr RR
          by_cases hin : 4118 ≤ i ∧ i ≤ 4118
          · have CC := Lib.hid (PE.out _ bra)
            have HC := Lib.hid (fun z => HNO.out (by omega) z)
            obtain ⟨hin1, hin2⟩ := hin
            go_wp2_with fail
            refine (CC.out).mono ?_
            rintro e w6 ⟨⟨z, rfl⟩, b6⟩
            go_wp2_with fail
            go_ret
            exact ⟨⟨z, rfl, HC.out z⟩, below_step da b6 (Nat.le_refl _)⟩
          · have HNX := Lib.hid (show ∀ m, m < 6 → ¬ (Pm.loS m ≤ i ∧ i ≤ Pm.hiS m) from fun m hm => by
              rcases Nat.lt_or_ge m 5 with h | h
              · exact HNOT.out m h
              · obtain rfl : m = 5 := by omega
                exact hin)
            by_cases hlo : i < 4118
            · clear hin
              go_wp2_with fail
              go_roundw
              case rel => exact ⟨6, by omega, rfl, bra, HNX.out⟩
              case measure => simp [intOf]
            · have hhi : 4118 < i := by omega
              clear hin
              go_wp2_with fail
              go_roundw
              case rel => exact ⟨6, by omega, rfl, bra, HNX.out⟩
              case measure => simp [intOf]
        · have r0 : wq.cell? ⟨w3.heap.size + 1 + 1 + 1 + 1 + 1 + 1, 18, none⟩ = some (.int .i64 5120) := RR.blk.cell 18
          have r1 : wq.cell? ⟨w3.heap.size + 1 + 1 + 1 + 1 + 1 + 1, 19, none⟩ = some (.int .i64 5123) := RR.blk.cell 19
          have r2 : wq.cell? ⟨w3.heap.size + 1 + 1 + 1 + 1 + 1 + 1, 20, none⟩ = some (.func (.func 41) #[] #[]) := RR.blk.cell 20
          have ba := alloc_one wq (.cells #[.int .i64 5120, .int .i64 5123, .func (.func 41) #[] #[]] 70)
          have KB := (Blk.new wq 70 #[.int .i64 5120, .int .i64 5123, .func (.func 41) #[] #[]]).three
          have Ka := ((K4.later br).later ba).three
          have FWa := ((KW4.later br).later ba).cin
          have da := below_step dr ba (Nat.le_refl _)
          have bra := below_step br ba (Nat.le_refl _)
          clear Kr RR
          by_cases hin : 5120 ≤ i ∧ i ≤ 5123
          · have CC := Lib.hid (IN.out _ bra hin)
            have HC := Lib.hid (HIN.out hin)
            obtain ⟨hin1, hin2⟩ := hin
            go_wp2_with fail
            refine (CC.out).mono ?_
            rintro e w6 ⟨rfl, b6⟩
            go_wp2_with fail
            go_ret
            exact ⟨⟨_, rfl, HC.out⟩, below_step da b6 (Nat.le_refl _)⟩
          · have HNX := Lib.hid (show ∀ m, m < 7 → ¬ (Pm.loS m ≤ i ∧ i ≤ Pm.hiS m) from fun m hm => by
              rcases Nat.lt_or_ge m 6 with h | h
              · exact HNOT.out m h
              · obtain rfl : m = 6 := by omega
                exact hin)
            by_cases hlo : i < 5120
            · clear hin
              go_wp2_with fail
              go_roundw
              case rel => exact ⟨7, by omega, rfl, bra, HNX.out⟩
              case measure => simp [intOf]
            · have hhi : 5123 < i := by omega
              clear hin
              go_wp2_with fail
              go_roundw
              case rel => exact ⟨7, by omega, rfl, bra, HNX.out⟩
              case measure => simp [intOf]
        · have r0 : wq.cell? ⟨w3.heap.size + 1 + 1 + 1 + 1 + 1 + 1, 21, none⟩ = some (.int .i64 6144) := RR.blk.cell 21
          have r1 : wq.cell? ⟨w3.heap.size + 1 + 1 + 1 + 1 + 1 + 1, 22, none⟩ = some (.int .i64 6147) := RR.blk.cell 22
          have r2 : wq.cell? ⟨w3.heap.size + 1 + 1 + 1 + 1 + 1 + 1, 23, none⟩ = some (.func (.func 42) #[] #[]) := RR.blk.cell 23
          have ba := alloc_one wq (.cells #[.int .i64 6144, .int .i64 6147, .func (.func 42) #[] #[]] 70)
          have KB := (Blk.new wq 70 #[.int .i64 6144, .int .i64 6147, .func (.func 42) #[] #[]]).three
          have Ka := ((K4.later br).later ba).three
          have FWa := ((KW4.later br).later ba).cin
          have da := below_step dr ba (Nat.le_refl _)
          have bra := below_step br ba (Nat.le_refl _)
          clear Kr RR
          by_cases hin : 6144 ≤ i ∧ i ≤ 6147
          · have CC := Lib.hid (OU.out _ bra hin)
            have HC := Lib.hid (HOU.out hin)
            obtain ⟨hin1, hin2⟩ := hin
            go_wp2_with fail
            refine (CC.out).mono ?_
            rintro e w6 ⟨rfl, b6⟩
            go_wp2_with fail
            go_ret
            exact ⟨⟨_, rfl, HC.out⟩, below_step da b6 (Nat.le_refl _)⟩
          · have HNX := Lib.hid (show ∀ m, m < 8 → ¬ (Pm.loS m ≤ i ∧ i ≤ Pm.hiS m) from fun m hm => by
              rcases Nat.lt_or_ge m 7 with h | h
              · exact HNOT.out m h
              · obtain rfl : m = 7 := by omega
                exact hin)
            by_cases hlo : i < 6144
            · clear hin
              go_wp2_with fail
              go_roundw
              case rel => exact ⟨8, by omega, rfl, bra, HNX.out⟩
              case measure => simp [intOf]
            · have hhi : 6147 < i := by omega
              clear hin
              go_wp2_with fail
              go_roundw
              case rel => exact ⟨8, by omega, rfl, bra, HNX.out⟩
              case measure => simp [intOf]
        · have r0 : wq.cell? ⟨w3.heap.size + 1 + 1 + 1 + 1 + 1 + 1, 24, none⟩ = some (.int .i64 5632) := RR.blk.cell 24
          have r1 : wq.cell? ⟨w3.heap.size + 1 + 1 + 1 + 1 + 1 + 1, 25, none⟩ = some (.int .i64 5635) := RR.blk.cell 25
          have r2 : wq.cell? ⟨w3.heap.size + 1 + 1 + 1 + 1 + 1 + 1, 26, none⟩ = some (.func (.func 63) #[] #[.pointer (some ⟨w3.heap.size + 1 + 1, 0, none⟩), .pointer (some ⟨w3.heap.size + 1 + 1 + 1, 0, none⟩)]) := RR.blk.cell 26
          have ba := alloc_one wq (.cells #[.int .i64 5632, .int .i64 5635, .func (.func 63) #[] #[.pointer (some ⟨w3.heap.size + 1 + 1, 0, none⟩), .pointer (some ⟨w3.heap.size + 1 + 1 + 1, 0, none⟩)]] 70)
          have KB := (Blk.new wq 70 #[.int .i64 5632, .int .i64 5635, .func (.func 63) #[] #[.pointer (some ⟨w3.heap.size + 1 + 1, 0, none⟩), .pointer (some ⟨w3.heap.size + 1 + 1 + 1, 0, none⟩)]]).three
          have Ka := ((K4.later br).later ba).three
          have FWa := ((KW4.later br).later ba).cin
          have da := below_step dr ba (Nat.le_refl _)
          have bra := below_step br ba (Nat.le_refl _)
          clear Kr RR
          by_cases hin : 5632 ≤ i ∧ i ≤ 5635
          · have CC := Lib.hid (MI.out _ bra hin)
            have HC := Lib.hid (HMI.out hin)
            obtain ⟨hin1, hin2⟩ := hin
            go_wp2_with fail
            refine (CC.out).mono ?_
            rintro e w6 ⟨rfl, b6⟩
            go_wp2_with fail
            go_ret
            exact ⟨⟨_, rfl, HC.out⟩, below_step da b6 (Nat.le_refl _)⟩
          · have HNX := Lib.hid (show ∀ m, m < 9 → ¬ (Pm.loS m ≤ i ∧ i ≤ Pm.hiS m) from fun m hm => by
              rcases Nat.lt_or_ge m 8 with h | h
              · exact HNOT.out m h
              · obtain rfl : m = 8 := by omega
                exact hin)
            by_cases hlo : i < 5632
            · clear hin
              go_wp2_with fail
              go_roundw
              case rel => exact ⟨9, by omega, rfl, bra, HNX.out⟩
              case measure => simp [intOf]
            · have hhi : 5635 < i := by omega
              clear hin
              go_wp2_with fail
              go_roundw
              case rel => exact ⟨9, by omega, rfl, bra, HNX.out⟩
              case measure => simp [intOf]
        · have r0 : wq.cell? ⟨w3.heap.size + 1 + 1 + 1 + 1 + 1 + 1, 27, none⟩ = some (.int .i64 6656) := RR.blk.cell 27
          have r1 : wq.cell? ⟨w3.heap.size + 1 + 1 + 1 + 1 + 1 + 1, 28, none⟩ = some (.int .i64 6659) := RR.blk.cell 28
          have r2 : wq.cell? ⟨w3.heap.size + 1 + 1 + 1 + 1 + 1 + 1, 29, none⟩ = some (.func (.func 63) #[] #[.pointer (some ⟨w3.heap.size + 1 + 1 + 1 + 1, 0, none⟩), .pointer (some ⟨w3.heap.size + 1 + 1 + 1 + 1 + 1, 0, none⟩)]) := RR.blk.cell 29
          have ba := alloc_one wq (.cells #[.int .i64 6656, .int .i64 6659, .func (.func 63) #[] #[.pointer (some ⟨w3.heap.size + 1 + 1 + 1 + 1, 0, none⟩), .pointer (some ⟨w3.heap.size + 1 + 1 + 1 + 1 + 1, 0, none⟩)]] 70)
          have KB := (Blk.new wq 70 #[.int .i64 6656, .int .i64 6659, .func (.func 63) #[] #[.pointer (some ⟨w3.heap.size + 1 + 1 + 1 + 1, 0, none⟩), .pointer (some ⟨w3.heap.size + 1 + 1 + 1 + 1 + 1, 0, none⟩)]]).three
          have Ka := ((K4.later br).later ba).three
          have FWa := ((KW4.later br).later ba).cin
          have da := below_step dr ba (Nat.le_refl _)
          have bra := below_step br ba (Nat.le_refl _)
          clear Kr RR
          by_cases hin : 6656 ≤ i ∧ i ≤ 6659
          · have CC := Lib.hid (MO.out _ bra hin)
            have HC := Lib.hid (HMO.out hin)
            obtain ⟨hin1, hin2⟩ := hin
            go_wp2_with fail
            refine (CC.out).mono ?_
            rintro e w6 ⟨rfl, b6⟩
            go_wp2_with fail
            go_ret
            exact ⟨⟨_, rfl, HC.out⟩, below_step da b6 (Nat.le_refl _)⟩
          · have HNX := Lib.hid (show ∀ m, m < 10 → ¬ (Pm.loS m ≤ i ∧ i ≤ Pm.hiS m) from fun m hm => by
              rcases Nat.lt_or_ge m 9 with h | h
              · exact HNOT.out m h
              · obtain rfl : m = 9 := by omega
                exact hin)
            by_cases hlo : i < 6656
            · clear hin
              go_wp2_with fail
              go_roundw
              case rel => exact ⟨10, by omega, rfl, bra, HNX.out⟩
              case measure => simp [intOf]
            · have hhi : 6659 < i := by omega
              clear hin
              go_wp2_with fail
              go_roundw
              case rel => exact ⟨10, by omega, rfl, bra, HNX.out⟩
              case measure => simp [intOf]
      · obtain rfl : k = 10 := by omega
        go_wp2_with fail
        go_ret
        exact ⟨⟨0, rfl, HF.out HNOT.out⟩, dr⟩
end Go.Proofs.Ytgkhpebhhkdgoaa
