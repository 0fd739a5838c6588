/-
  Texts joined: PrmPdo.
  Conditions: none.
-/
import Derived.Test.YtgkhpebhhkdgoaaJ13
/-
  Walks: Rpdo, Tpdo, Peers, Period, Sync of layer 33.
  Conditions: none.
-/
namespace Go.Proofs.Ytgkhpebhhkdgoaa
set_option linter.unusedVariables false
set_option linter.unusedSimpArgs false
open Go.RowKit
/-- How a PDO is set, if there is one. -/
def RpP (o : Option (Nat × Int × List Nat)) (w : World) (e : Ending) (w' : World) : Prop := match o with
  | none => e = .returned (.tuple #[.agg #[.int .u32 0, .int .i64 0, .slice none 0 0], .bool false]) ∧ Below w.heap.size w w'
  | some (v, t, ws) => ∃ A c, e = .returned (.tuple #[.agg #[.int .u32 (v : Int), .int .i64 t, .slice A ws.length c], .bool true]) ∧ OWp w' w.heap.size A ws.length c ws ∧ Below w.heap.size w w'
def TpP (o : Option (Nat × Int × Int × Int × List Nat)) (w : World) (e : Ending) (w' : World) : Prop := match o with
  | none => e = .returned (.tuple #[.agg #[.int .u32 0, .int .i64 0, .int .i64 0, .int .i64 0, .slice none 0 0], .bool false]) ∧ Below w.heap.size w w'
  | some (v, t, inh, ev, ws) => ∃ A c, e = .returned (.tuple #[.agg #[.int .u32 (v : Int), .int .i64 t, .int .i64 inh, .int .i64 ev, .slice A ws.length c], .bool true]) ∧ OWp w' w.heap.size A ws.length c ws ∧ Below w.heap.size w w'
theorem num_nat (D : Dc.Dic) (i j : Int) : ∃ z : Nat, (Pm.numS D i j).1 = (z : Int) ∧ z < 4294967296 := by
  obtain ⟨h1, h2⟩ := Pm.num_range D i j
  obtain ⟨z, hz⟩ := Int.eq_ofNat_of_zero_le h1
  exact ⟨z, hz, by omega⟩
section
variable {F : Nat → Prop} {w : World} {g gv lc vc : Nat} {la : Addr} {vA : Option Addr} {xs vs : List Value} {D : Dc.Dic}
set_option maxRecDepth 100000 in
set_option maxHeartbeats 4000000 in
theorem Rpdo_any (k : Int) (h : DRt 73 w F g gv (some la) lc vA vc xs vs D) (hd : ∀ e ∈ D.l, e.dflt.length ≤ 1000000) (hv : ∀ v ∈ D.v, v.length ≤ 1000000) :
    Calls Try.prog 6 #[.pointer (some ⟨g, 0, none⟩), .int .i64 k] w (RpP (Pm.rpdoS D k) w) := by
  have b0 := alloc_one w (.cells #[.int .u32 0, .int .i64 0, .slice none 0 0] 31)
  have K0 := Blk.new w 31 #[.int .u32 0, .int .i64 0, .slice none 0 0]
  have F0 := K0.three
  by_cases hk : k < 0 ∨ 4 ≤ k
  · have ho : Pm.rpdoS D k = none := by unfold Pm.rpdoS; rw [if_pos hk]
    rw [ho]
    unfold RpP
    dsimp only
    clear h ho
    rcases hk with hk | hk
    all_goals
      go_enter Try.func6, Try.ntmps6
      go_wp2_with fail
      exact bodyPost_ret (v := .tuple #[.agg #[.int .u32 0, .int .i64 0, .slice none 0 0], .bool false]) (by simp [results, Try.results6, go_sem, F0]) rfl ⟨rfl, b0⟩
  · have hk1 : 0 ≤ k := by omega
    have hk2 : k < 4 := by omega
    have NU := Number_any (5120 + k) 1 (h.below b0) hd hv
    have ho : Pm.rpdoS D k = if (Pm.numS D (5120 + k) 1).2 = false then none else some ((Pm.numS D (5120 + k) 1).1.toNat, Pm.numD D (5120 + k) 2 255, Pm.wordsS D (5632 + k)) := by unfold Pm.rpdoS; rw [if_neg hk]
    have hnn := num_nat D (5120 + k) 1
    rw [ho]
    clear hk ho
    generalize Pm.numS D (5120 + k) 1 = q at *
    obtain ⟨q1, q2⟩ := q
    dsimp only at hnn NU ⊢
    obtain ⟨z, rfl, hz⟩ := hnn
    cases q2
    · simp only [if_true]
      unfold RpP
      dsimp only
      replace NU := Lib.hid NU
      clear h
      go_enter Try.func6, Try.ntmps6
      go_wp2_with fail
      refine (NU.out).mono ?_
      rintro e w1 ⟨rfl, b1⟩
      have K1 := K0.later b1
      have F1 := K1.three
      have RS1 := (K1.store3 (.int .u32 0) (.int .i64 0) (.slice none 0 0)).three
      have bs1 := below_set3 (below_step b0 b1 (Nat.le_refl _)) (Nat.le_refl w.heap.size) 0 1 2 (.int .u32 0) (.int .i64 0) (.slice none 0 0)
      clear F0
      go_wp2_with fail
      exact bodyPost_ret (v := .tuple #[.agg #[.int .u32 0, .int .i64 0, .slice none 0 0], .bool false]) (by simp [results, Try.results6, go_sem, RS1]) rfl ⟨rfl, bs1⟩
    · simp only [Bool.true_eq_false, if_false]
      unfold RpP
      dsimp only
      rw [show (z : Int).toNat = z by omega]
      have hzw : (z : Int) % 4294967296 = (z : Int) := Int.emod_eq_of_lt (by omega) (by omega)
      have N2 := fun (w1 : World) (hb : Below w.heap.size w w1) => number_any (5120 + k) 2 255 (h.below hb) hd hv
      have WD := fun (w1 : World) (hb : Below w.heap.size w w1) => Words_any (5632 + k) (h.below hb) hd hv
      generalize Pm.numD D (5120 + k) 2 255 = t at *
      generalize Pm.wordsS D (5632 + k) = ws at *
      unfold WordsP at WD
      replace NU := Lib.hid NU; replace N2 := Lib.hid N2; replace WD := Lib.hid WD
      clear h hz
      go_enter Try.func6, Try.ntmps6
      go_wp2_with fail
      refine (NU.out).mono ?_
      rintro e w1 ⟨rfl, b1⟩
      have d1 := below_step b0 b1 (Nat.le_refl _)
      clear F0
      go_wp2_with fail
      refine (N2.out _ d1).mono ?_
      rintro e w2 ⟨rfl, b2⟩
      have d2 := below_step d1 b2 (Nat.le_refl _)
      go_wp2_with fail
      refine (WD.out _ d2).mono ?_
      rintro e w3 ⟨A3, c3, rfl, o3, b3⟩
      have d3 := below_step d2 b3 (Nat.le_refl _)
      have K3 := ((K0.later b1).later b2).later b3
      have F3 := K3.three
      have RS3 := (K3.store3 (.int .u32 (z : Int)) (.int .i64 t) (.slice A3 ws.length c3)).three
      have bs3 := below_set3 d3 (Nat.le_refl w.heap.size) 0 1 2 (.int .u32 (z : Int)) (.int .i64 t) (.slice A3 ws.length c3)
      have hl2 : w.heap.size < w2.heap.size := ((K0.later b1).later b2).lt
      go_wp2_with fail
      refine bodyPost_ret (v := .tuple #[.agg #[.int .u32 (z : Int), .int .i64 t, .slice A3 ws.length c3], .bool true]) (by simp [results, Try.results6, go_sem, RS3]) rfl ⟨A3, c3, rfl, ?_, bs3⟩
      exact OWp.more (base := w2.heap.size) (OWp.far (OWp.far (OWp.far o3 hl2 0 _) hl2 1 _) hl2 2 _) d2.size
theorem Blk.store5 {g : Nat} {ty : TypeId} {a b c d e : Value} (h : Blk w g ty #[a, b, c, d, e]) (a' b' c' d' e' : Value) : Blk (((((w.setCell ⟨g, 0, none⟩ a').setCell ⟨g, 1, none⟩ b').setCell ⟨g, 2, none⟩ c').setCell ⟨g, 3, none⟩ d').setCell ⟨g, 4, none⟩ e') g ty #[a', b', c', d', e'] := ((((h.set_ 0 a').set_ 1 b').set_ 2 c').set_ 3 d').set_ 4 e'
theorem Blk.cin {g : Nat} {ty : TypeId} {a b c d e : Value} (h : Blk w g ty #[a, b, c, d, e]) : (w.cell? ⟨g, 0, none⟩ = some a ∧ w.cell? ⟨g, 1, none⟩ = some b ∧ w.cell? ⟨g, 2, none⟩ = some c ∧ w.cell? ⟨g, 3, none⟩ = some d ∧ w.cell? ⟨g, 4, none⟩ = some e) ∧ (w.frozen? ⟨g, 0, none⟩ = false ∧ w.frozen? ⟨g, 1, none⟩ = false ∧ w.frozen? ⟨g, 2, none⟩ = false ∧ w.frozen? ⟨g, 3, none⟩ = false ∧ w.frozen? ⟨g, 4, none⟩ = false) := ⟨⟨h.cell 0, h.cell 1, h.cell 2, h.cell 3, h.cell 4⟩, h.frozen 0, h.frozen 1, h.frozen 2, h.frozen 3, h.frozen 4⟩
theorem below_set5 {B : Nat} {w' : World} {g : Nat} (h : Below B w w') (hg : B ≤ g) (a b c d e : Value) : Below B w (((((w'.setCell ⟨g, 0, none⟩ a).setCell ⟨g, 1, none⟩ b).setCell ⟨g, 2, none⟩ c).setCell ⟨g, 3, none⟩ d).setCell ⟨g, 4, none⟩ e) := ((((h.setCell (p := ⟨g, 0, none⟩) hg a).setCell (p := ⟨g, 1, none⟩) hg b).setCell (p := ⟨g, 2, none⟩) hg c).setCell (p := ⟨g, 3, none⟩) hg d).setCell (p := ⟨g, 4, none⟩) hg e
set_option maxRecDepth 100000 in
set_option maxHeartbeats 4000000 in
theorem Tpdo_any (k : Int) (h : DRt 73 w F g gv (some la) lc vA vc xs vs D) (hd : ∀ e ∈ D.l, e.dflt.length ≤ 1000000) (hv : ∀ v ∈ D.v, v.length ≤ 1000000) :
    Calls Try.prog 7 #[.pointer (some ⟨g, 0, none⟩), .int .i64 k] w (TpP (Pm.tpdoS D k) w) := by
  have b0 := alloc_one w (.cells #[.int .u32 0, .int .i64 0, .int .i64 0, .int .i64 0, .slice none 0 0] 35)
  have K0 := Blk.new w 35 #[.int .u32 0, .int .i64 0, .int .i64 0, .int .i64 0, .slice none 0 0]
  have F0 := K0.cin
  by_cases hk : k < 0 ∨ 4 ≤ k
  · have ho : Pm.tpdoS D k = none := by unfold Pm.tpdoS; rw [if_pos hk]
    rw [ho]
    unfold TpP
    dsimp only
    clear h ho
    rcases hk with hk | hk
    all_goals
      go_enter Try.func7, Try.ntmps7
      go_wp2_with fail
      exact bodyPost_ret (v := .tuple #[.agg #[.int .u32 0, .int .i64 0, .int .i64 0, .int .i64 0, .slice none 0 0], .bool false]) (by simp [results, Try.results7, go_sem, F0]) rfl ⟨rfl, b0⟩
  · have hk1 : 0 ≤ k := by omega
    have hk2 : k < 4 := by omega
    have NU := Number_any (6144 + k) 1 (h.below b0) hd hv
    have ho : Pm.tpdoS D k = if (Pm.numS D (6144 + k) 1).2 = false then none else some ((Pm.numS D (6144 + k) 1).1.toNat, Pm.numD D (6144 + k) 2 255, Pm.numD D (6144 + k) 3 0, Pm.numD D (6144 + k) 5 0, Pm.wordsS D (6656 + k)) := by unfold Pm.tpdoS; rw [if_neg hk]
    have hnn := num_nat D (6144 + k) 1
    rw [ho]
    clear hk ho
    generalize Pm.numS D (6144 + k) 1 = q at *
    obtain ⟨q1, q2⟩ := q
    dsimp only at hnn NU ⊢
    obtain ⟨z, rfl, hz⟩ := hnn
    cases q2
    · simp only [if_true]
      unfold TpP
      dsimp only
      replace NU := Lib.hid NU
      clear h
      go_enter Try.func7, Try.ntmps7
      go_wp2_with fail
      refine (NU.out).mono ?_
      rintro e w1 ⟨rfl, b1⟩
      have K1 := K0.later b1
      have F1 := K1.cin
      have RS1 := (K1.store5 (.int .u32 0) (.int .i64 0) (.int .i64 0) (.int .i64 0) (.slice none 0 0)).cin
      have bs1 := below_set5 (below_step b0 b1 (Nat.le_refl _)) (Nat.le_refl w.heap.size) (.int .u32 0) (.int .i64 0) (.int .i64 0) (.int .i64 0) (.slice none 0 0)
      clear F0
      go_wp2_with fail
      exact bodyPost_ret (v := .tuple #[.agg #[.int .u32 0, .int .i64 0, .int .i64 0, .int .i64 0, .slice none 0 0], .bool false]) (by simp [results, Try.results7, go_sem, RS1]) rfl ⟨rfl, bs1⟩
    · simp only [Bool.true_eq_false, if_false]
      unfold TpP
      dsimp only
      rw [show (z : Int).toNat = z by omega]
      have hzw : (z : Int) % 4294967296 = (z : Int) := Int.emod_eq_of_lt (by omega) (by omega)
      have N2 := fun (w1 : World) (hb : Below w.heap.size w w1) => number_any (6144 + k) 2 255 (h.below hb) hd hv
      have N3 := fun (w1 : World) (hb : Below w.heap.size w w1) => number_any (6144 + k) 3 0 (h.below hb) hd hv
      have N5 := fun (w1 : World) (hb : Below w.heap.size w w1) => number_any (6144 + k) 5 0 (h.below hb) hd hv
      have WD := fun (w1 : World) (hb : Below w.heap.size w w1) => Words_any (6656 + k) (h.below hb) hd hv
      generalize Pm.numD D (6144 + k) 2 255 = t at *
      generalize Pm.numD D (6144 + k) 3 0 = inh at *
      generalize Pm.numD D (6144 + k) 5 0 = ev at *
      generalize Pm.wordsS D (6656 + k) = ws at *
      unfold WordsP at WD
      replace NU := Lib.hid NU; replace N2 := Lib.hid N2; replace N3 := Lib.hid N3; replace N5 := Lib.hid N5; replace WD := Lib.hid WD
      clear h hz
      go_enter Try.func7, Try.ntmps7
      go_wp2_with fail
      refine (NU.out).mono ?_
      rintro e w1 ⟨rfl, b1⟩
      have d1 := below_step b0 b1 (Nat.le_refl _)
      clear F0
      go_wp2_with fail
      refine (N2.out _ d1).mono ?_
      rintro e w2 ⟨rfl, b2⟩
      have d2 := below_step d1 b2 (Nat.le_refl _)
      go_wp2_with fail
      refine (WD.out _ d2).mono ?_
      rintro e w3 ⟨A3, c3, rfl, o3, b3⟩
      have d3 := below_step d2 b3 (Nat.le_refl _)
      have K3 := ((K0.later b1).later b2).later b3
      have hl2 : w.heap.size < w2.heap.size := ((K0.later b1).later b2).lt
      have hl3 : w2.heap.size ≤ w3.heap.size := b3.size
      have b4 := alloc_one w3 (.cells #[.int .u32 (z : Int), .int .i64 t, .int .i64 0, .int .i64 0, .slice A3 ws.length c3] 35)
      have KC := Blk.new w3 35 #[.int .u32 (z : Int), .int .i64 t, .int .i64 0, .int .i64 0, .slice A3 ws.length c3]
      have d4 := below_step d3 b4 (Nat.le_refl _)
      go_wp2_with fail
      refine (N3.out _ d4).mono ?_
      rintro e w5 ⟨rfl, b5⟩
      have d5 := below_step d4 b5 (Nat.le_refl _)
      go_wp2_with fail
      refine (N5.out _ d5).mono ?_
      rintro e w6 ⟨rfl, b6⟩
      have d6 := below_step d5 b6 (Nat.le_refl _)
      have KC6 := (KC.later b5).later b6
      have FC6 := KC6.cin
      have b36 := below_step b4 (below_step b5 b6 (Nat.le_refl _)) (Nat.le_refl _)
      have K6 := K3.later b36
      have o6 := o3.below b36
      have KC8 := (KC6.set_ 2 (.int .i64 inh)).set_ 3 (.int .i64 ev)
      have FC8 := KC8.cin
      have K8 := (K6.far (p := ⟨w3.heap.size, 2, none⟩) (by dsimp only; omega) (.int .i64 inh)).far (p := ⟨w3.heap.size, 3, none⟩) (by dsimp only; omega) (.int .i64 ev)
      have F8 := K8.cin
      have d8 : Below w.heap.size w ((w6.setCell ⟨w3.heap.size, 2, none⟩ (.int .i64 inh)).setCell ⟨w3.heap.size, 3, none⟩ (.int .i64 ev)) := (d6.setCell (p := ⟨w3.heap.size, 2, none⟩) (by dsimp only; omega) _).setCell (p := ⟨w3.heap.size, 3, none⟩) (by dsimp only; omega) _
      have RS9 := (K8.store5 (.int .u32 (z : Int)) (.int .i64 t) (.int .i64 inh) (.int .i64 ev) (.slice A3 ws.length c3)).cin
      have bs9 := below_set5 d8 (Nat.le_refl w.heap.size) (.int .u32 (z : Int)) (.int .i64 t) (.int .i64 inh) (.int .i64 ev) (.slice A3 ws.length c3)
      have o8 : OWp ((w6.setCell ⟨w3.heap.size, 2, none⟩ (.int .i64 inh)).setCell ⟨w3.heap.size, 3, none⟩ (.int .i64 ev)) w2.heap.size A3 ws.length c3 ws := by
        obtain ⟨zs, z1, z2⟩ := o6
        exact ⟨zs, OV.off (OV.off z1 KC6 (by decide)) (KC6.set_ 2 (.int .i64 inh)) (by decide), z2⟩
      clear K3 K6 KC KC6 N2 N3 N5 WD NU
      go_wp2_with fail
      refine bodyPost_ret (v := .tuple #[.agg #[.int .u32 (z : Int), .int .i64 t, .int .i64 inh, .int .i64 ev, .slice A3 ws.length c3], .bool true]) (by simp [results, Try.results7, go_sem, RS9]) rfl ⟨A3, c3, rfl, ?_, bs9⟩
      exact OWp.more (base := w2.heap.size) (OWp.far (OWp.far (OWp.far (OWp.far (OWp.far o8 hl2 0 _) hl2 1 _) hl2 2 _) hl2 3 _) hl2 4 _) d2.size
theorem OWp.mvlow {w w' : World} {G : Nat → Prop} {base n c : Nat} {A : Option Addr} {ws : List Nat} (h : OWp w base A n c ws) (hm : Mv G w w') (hG : ∀ q, G q → q < base) : OWp w' base A n c ws := by
  obtain ⟨xs, h1, h2⟩ := h
  refine ⟨xs, ⟨h1.1, ?_⟩, h2⟩
  rcases h1.2 with h3 | ⟨k, cap, cur, hv, hg, hh, r⟩
  · exact .inl h3
  · exact .inr ⟨k, cap, cur, hv, hg, (hm.block k (Array.getElem?_eq_some_iff.1 hh).1 fun e => by have := hG k e; omega).trans hh, r⟩
theorem RV.head4 {w : World} {B n c : Nat} {A : Option Addr} {ws : List Nat} (h : RW w B A n c ws) {k : Nat} (hk : k ≤ n) : RW w B A k c (ws.take k) := by
  have hl := h.len
  refine ⟨by simp; omega, Nat.le_trans hk h.le, h.cap, fun hn => ?_, fun hn => ?_⟩
  · have := h.nil hn
    omega
  · have hn0 : 0 < n := by omega
    obtain ⟨b, o, e, hb, hc⟩ := RV.at_ (show RV w B 1 A n c _ from h) hn0
    refine ⟨b, o, e, hb, fun j u hu => hc j u ?_⟩
    rw [List.getElem?_map, List.getElem?_take] at hu
    split at hu
    · rwa [List.getElem?_map]
    · simp at hu
set_option maxHeartbeats 1000000 in
theorem Peers_any (h : DRt 73 w F g gv (some la) lc vA vc xs vs D) (hd : ∀ e ∈ D.l, e.dflt.length ≤ 1000000) (hv : ∀ v ∈ D.v, v.length ≤ 1000000) :
    Calls Try.prog 10 #[.pointer (some ⟨g, 0, none⟩)] w fun e w' => ∃ A c, e = .returned (.slice A (Pm.peersS D).length c) ∧ (∀ (w2 : World) (G : Nat → Prop), Mv G w' w2 → (∀ q, G q → q < w.heap.size) → RW w2 w2.heap.size A (Pm.peersS D).length c (Pm.peersS D)) ∧ Below w.heap.size w w' := by
  have WD := Words_any 4118 h hd hv
  unfold Pm.peersS
  have hl8 : (Pm.wordsS D 4118).length ≤ 8 := by unfold Pm.wordsS; rw [Pm.wordsK_len]; exact (Pm.cnt_le D 4118).1
  generalize Pm.wordsS D 4118 = ws at *
  unfold WordsP at WD
  replace WD := Lib.hid WD
  clear h
  by_cases h4 : 4 < ws.length
  · have HL := Lib.hid (show (ws.take 4).length = 4 by rw [List.length_take]; omega)
    go_enter Try.func10, Try.ntmps10
    go_wp2_with fail
    refine (WD.out).mono ?_
    rintro e w1 ⟨A1, c1, rfl, o1, b1⟩
    have hc1 := o1.rw.cap
    have hle := o1.rw.le
    obtain ⟨ys, y1, y2⟩ := id o1
    obtain ⟨q, rfl, _, _⟩ := y1.head (by omega)
    have HR := Lib.hid (fun (w2 : World) (G : Nat → Prop) (hm : Mv G w1 w2) (hG : ∀ q, G q → q < w.heap.size) => RV.head4 (o1.mvlow hm hG).rw (show 4 ≤ ws.length by omega))
    clear y1 y2 o1
    go_wp2_with fail
    go_ret
    rw [HL.out]
    exact ⟨_, c1, rfl, HR.out, b1⟩
  · have HT := Lib.hid (show ws.take 4 = ws from List.take_of_length_le (by omega))
    go_enter Try.func10, Try.ntmps10
    go_wp2_with fail
    refine (WD.out).mono ?_
    rintro e w1 ⟨A1, c1, rfl, o1, b1⟩
    have hc1 := o1.rw.cap
    have hle := o1.rw.le
    have HO := Lib.hid o1
    clear o1
    go_wp2_with fail
    go_ret
    rw [HT.out]
    exact ⟨A1, c1, rfl, fun w2 G hm hG => ((HO.out).mvlow hm hG).rw, b1⟩
set_option maxHeartbeats 1000000 in
theorem Period_any (h : DRt 73 w F g gv (some la) lc vA vc xs vs D) (hd : ∀ e ∈ D.l, e.dflt.length ≤ 1000000) (hv : ∀ v ∈ D.v, v.length ≤ 1000000) :
    Calls Try.prog 11 #[.pointer (some ⟨g, 0, none⟩)] w fun e w' => e = .returned (.int .i64 (Pm.periodS D)) ∧ Below w.heap.size w w' := by
  have NU := Lib.hid (number_any 4119 0 0 h hd hv)
  clear h
  go_enter Try.func11, Try.ntmps11
  go_wp2_with fail
  refine (NU.out).mono ?_
  rintro e w1 ⟨rfl, b1⟩
  go_wp2_with fail
  go_ret
  exact ⟨rfl, b1⟩
def SyncP (o : Option (Nat × Int)) (w : World) (e : Ending) (w' : World) : Prop := match o with
  | none => e = .returned (.tuple #[.int .u32 0, .int .i64 0, .bool false]) ∧ Below w.heap.size w w'
  | some (v, n) => e = .returned (.tuple #[.int .u32 (v : Int), .int .i64 n, .bool true]) ∧ Below w.heap.size w w'
set_option maxHeartbeats 1000000 in
theorem Sync_any (h : DRt 73 w F g gv (some la) lc vA vc xs vs D) (hd : ∀ e ∈ D.l, e.dflt.length ≤ 1000000) (hv : ∀ v ∈ D.v, v.length ≤ 1000000) :
    Calls Try.prog 8 #[.pointer (some ⟨g, 0, none⟩)] w (SyncP (Pm.syncS D) w) := by
  have NU := Number_any 4101 0 h hd hv
  have N2 := Lib.hid (fun (w1 : World) (hb : Below w.heap.size w w1) => number_any 4121 0 0 (h.below hb) hd hv)
  have hnn := num_nat D 4101 0
  unfold Pm.syncS
  clear h
  generalize Pm.numS D 4101 0 = q at *
  obtain ⟨q1, q2⟩ := q
  dsimp only at hnn NU ⊢
  obtain ⟨z, rfl, hz⟩ := hnn
  cases q2
  · simp only [if_true]
    unfold SyncP
    dsimp only
    replace NU := Lib.hid NU
    go_enter Try.func8, Try.ntmps8
    go_wp2_with fail
    refine (NU.out).mono ?_
    rintro e w1 ⟨rfl, b1⟩
    go_wp2_with fail
    go_ret3
    exact ⟨rfl, b1⟩
  · simp only [Bool.true_eq_false, if_false]
    unfold SyncP
    dsimp only
    rw [show (z : Int).toNat = z by omega]
    have hzw : (z : Int) % 4294967296 = (z : Int) := Int.emod_eq_of_lt (by omega) (by omega)
    replace NU := Lib.hid NU
    clear hz
    go_enter Try.func8, Try.ntmps8
    go_wp2_with fail
    refine (NU.out).mono ?_
    rintro e w1 ⟨rfl, b1⟩
    go_wp2_with fail
    refine (N2.out _ b1).mono ?_
    rintro e w2 ⟨rfl, b2⟩
    go_wp2_with fail
    go_ret3
    exact ⟨rfl, below_step b1 b2 (Nat.le_refl _)⟩
end
end Go.Proofs.Ytgkhpebhhkdgoaa
