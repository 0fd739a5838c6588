/-
  Walk: MappingCarries.
  Conditions: none.
-/
import Derived.Test.YtoplpmfdgaabfaaGreatJ04
import Derived.Test.YtoplpmfdgaabfaaGreatJ17
import Derived.Test.YtoplpmfdgaabfaaGreatJ21
import Derived.Test.YtoplpmfdgaabfaaGreatJ22
import Derived.Test.YtoplpmfdgaabfaaGreatJ23
namespace Go.Proofs.YtoplpmfdgaabfaaGreat
set_option linter.unusedVariables false
set_option linter.unusedSimpArgs false
open Go.ChangeShapes Go.WideShapes Go.ChangeAt Go.RowKit Go.Sort
theorem Two.both {w : World} {base g g' : Nat} {D D' : Dc.Dic} (h : Two w base g g' D D') : ∃ (F : Nat → Prop) (gv lc vc : Nat) (la : Addr) (vA : Option Addr) (xs vs : List Value) (F' : Nat → Prop) (gv' lc' vc' : Nat) (lA' vA' : Option Addr) (xs' vs' : List Value), DRt 89 w F g gv (some la) lc vA vc xs vs D ∧ DRt 85 w F' g' gv' lA' lc' vA' vc' xs' vs' D' := by
  obtain ⟨F, F', ⟨gv, lc, vc, la, vA, xs, vs, h1, _⟩, ⟨gv', lc', vc', lA', vA', xs', vs', h2, _⟩, _⟩ := h
  exact ⟨F, gv, lc, vc, la, vA, xs, vs, F', gv', lc', vc', lA', vA', xs', vs', h1, h2⟩
theorem VlW.vlc {w : World} {base : Nat} {f : Dc.Vl} {cs : List Value} (h : VlW w base f cs) : VlC w w.heap.size f cs := by
  obtain ⟨A, n, c, h1, h2⟩ := h
  exact ⟨A, n, c, h1, h2.rb⟩
set_option maxRecDepth 100000 in
set_option maxHeartbeats 8000000 in
theorem MappingCarries_walk (W : World) {A0 A1 A2 A3 : Option Addr} {n0 c0 n1 c1 n2 c2 n3 c3 : Nat} {es : List Ent.En} {vls : List Dc.Vl} {ws : List Nat} {bs : List UInt8} (h0 : REn W W.heap.size W.heap.size A0 n0 c0 es) (hnm : ∀ e ∈ es, e.name.length ≤ 9223372036854775807) (h1 : RVl W W.heap.size W.heap.size A1 n1 c1 vls)
    (h2 : RW W W.heap.size A2 n2 c2 ws) (hwl : ∀ x ∈ ws, x < 4294967296) (h3 : RB W W.heap.size A3 n3 c3 bs) :
    Calls Tryz.prog 3 #[.agg #[.slice A0 n0 c0, .slice A1 n1 c1, .slice A2 n2 c2, .slice A3 n3 c3]] W fun e W' => e = .returned (.bool true) ∧ Below W.heap.size W W' := by
  have b0 := alloc_one W (.cells #[.slice A0 n0 c0, .slice A1 n1 c1, .slice A2 n2 c2, .slice A3 n3 c3] 27)
  have K := Blk.new W 27 #[.slice A0 n0 c0, .slice A1 n1 c1, .slice A2 n2 c2, .slice A3 n3 c3]
  have K4 := K.four
  have MD := Lib.hid (made30_any (A2 := A2) (n2 := n2) (c2 := c2) (A3 := A3) (n3 := n3) (c3 := c3) (W.alloc (.cells #[.slice A0 n0 c0, .slice A1 n1 c1, .slice A2 n2 c2, .slice A3 n3 c3] 27)) (h0.below b0 (Nat.le_refl _)) hnm (h1.below b0 (Nat.le_refl _)) b0.size)
  go_enter Tryz.func3, Tryz.ntmps3
  go_wp2_with fail
  refine (MD.out).mono ?_
  rintro e w1 (⟨rfl, b1⟩ | ⟨g, g', D, rfl, b1, h100, h1000, TW, hfine, hd⟩)
  · clear K4
    go_wp2_with fail
    refine (known30_any _).mono ?_
    rintro e w5 ⟨rfl, b5⟩
    go_wp2_with fail
    go_ret
    exact ⟨rfl, below_step (below_step b0 b1 (Nat.le_refl _)) b5 (Nat.le_refl _)⟩
  · have d1 := below_step b0 b1 (Nat.le_refl _)
    have K1 := K.later b1
    clear K4 MD K b0 b1
    have k1 := K1.four
    have hdd : ∀ e ∈ D.l, e.dflt.length ≤ 1000000 := fun e he => by have := hd e he; omega
    have hvv : ∀ v ∈ D.v, v.length ≤ 1000000 := fun v hv => by have := hfine.sm v hv; omega
    obtain ⟨F, gv, lc, vc, la, vA, xs, vs, F', gv', lc', vc', lA', vA', xs', vs', hD, hR⟩ := TW.both
    have hl3 := h3.len
    subst hl3
    have LE := Lib.hid (Lent_any w1 (h3.below d1) (by omega) d1.size)
    have GA := Lib.hid (fun (w : World) (hb : Below w1.heap.size w1 w) => Gather_any (hD.below hb) hdd hvv (h2.below (below_step d1 hb (Nat.le_refl _))) hwl (below_step d1 hb (Nat.le_refl _)).size)
    have GR := Lib.hid (fun (w : World) (hb : Below w1.heap.size w1 w) => RGather_any (hR.below hb) hvv (h2.below (below_step d1 hb (Nat.le_refl _))) hwl (below_step d1 hb (Nat.le_refl _)).size)
    have SC := Lib.hid (fun (w : World) (hb : Below w1.heap.size w1 w) {A' : Option Addr} {c' B' : Nat} (hr : RB w B' A' bs.length c' bs) (hB' : B' ≤ w.heap.size) => Scatter_any (hD.below hb) hdd (h2.below (below_step d1 hb (Nat.le_refl _))) hwl (below_step d1 hb (Nat.le_refl _)).size hr (by omega) hB')
    have SR := Lib.hid (fun (w : World) (hb : Below w1.heap.size w1 w) => RScatter_any (hR.below hb) (h2.below (below_step d1 hb (Nat.le_refl _))) hwl (below_step d1 hb (Nat.le_refl _)).size (h3.below (below_step d1 hb (Nat.le_refl _))) (by omega) (below_step d1 hb (Nat.le_refl _)).size)
    have VD := Lib.hid (fun (w : World) (hb : Below w1.heap.size w1 w) => dVals_any (hD.below hb) hvv)
    have VR := Lib.hid (fun (w : World) (hb : Below w1.heap.size w1 w) => rVals_any (hR.below hb) hvv)
    have KP := Lib.hid (fun (w : World) (hb : Below w1.heap.size w1 w) {A : Option Addr} {c B : Nat} (h : RB w B A (bs.length + 1) c (bs ++ [77])) => Kept_any w h (h3.below (below_step d1 hb (Nat.le_refl _))))
    have hn3 : bs.length ≤ 1000 := h1000
    clear hD hR TW hd hdd hvv hfine h0 h1 hnm h2 hwl h3
    have hsm := Mp.scatter_small D.l ws bs
    generalize Mp.gatherS D ws = gs at *
    generalize Mp.scatterS D.l ws bs = sc at *
    obtain ⟨gl, ge⟩ := gs
    obtain ⟨sl, se⟩ := sc
    unfold PackPost at GA GR
    unfold ScatPost at SC SR
    unfold ValsP at VD VR
    dsimp only at GA GR SC SR
    have hbb : (bs == bs && (77 : UInt8) == 77) = true := by simp
    rw [hbb] at KP
    have g1 : (ge == ge) = true := by simp
    have g2 : (se == se) = true := by simp
    clear hbb
    go_wp2_with fail
    refine (LE.out).mono ?_
    rintro e w2 ⟨A6, c6, rfl, o6, b2⟩
    have k2 := (K1.later b2).four
    clear k1
    go_wp2_with fail
    refine (GA.out _ b2).mono ?_
    rintro e w3 ⟨A7, c7, rfl, o7, b3⟩
    have b13 := below_step b2 b3 (Nat.le_refl _)
    have k3 := (K1.later b13).four
    clear k2
    go_wp2_with fail
    refine (GR.out _ b13).mono ?_
    rintro e w4 ⟨A8, c8, rfl, o8, b4⟩
    have b14 := below_step b13 b4 (Nat.le_refl _)
    have b24 := below_step b3 b4 (Nat.le_refl _)
    have k4 := (K1.later b14).four
    have r6 := ((o6.below b24).rb).take (k := bs.length) (by omega)
    rw [take_mark rfl] at r6
    clear k3
    go_wp2_with fail
    refine (SC.out _ b14 r6 (Nat.le_refl _)).mono ?_
    rintro e w5 ⟨Ap, cp, rfl, op, b5⟩
    have b15 := below_step b14 b5 (Nat.le_refl _)
    have k5 := (K1.later b15).four
    clear k4 r6
    go_wp2_with fail
    refine (SR.out _ b15).mono ?_
    rintro e w6 ⟨Aq, cq, rfl, oq, b6⟩
    have b16 := below_step b15 b6 (Nat.le_refl _)
    have k6 := (K1.later b16).four
    have b46 := below_step b5 b6 (Nat.le_refl _)
    have b26 := below_step b24 b46 (Nat.le_refl _)
    have op6 := op.below b6 (R' := VlW w6 w4.heap.size) fun _ _ h => h.below b6
    have o6' := o6.below b26
    have e1 := convb ((o7.below (below_step b4 b46 (Nat.le_refl _))).rb)
    have e2 := convb ((o8.below b46).rb)
    have SM := Lib.hid (VSame_any w6 (show RVl w6 w6.heap.size w6.heap.size Ap sl.length cp sl from op6.rs.imp fun _ _ h => h.vlc) (show RVl w6 w6.heap.size w6.heap.size Aq sl.length cq sl from oq.rs.imp fun _ _ h => h.vlc) (Nat.le_refl _) (Nat.le_refl _) (Nat.le_refl _) (Nat.le_refl _))
    have hcp : sl.length ≤ cp ∧ cp ≤ 9223372036854775807 := by obtain ⟨zs, z1, _⟩ := op; exact ⟨z1.rv.le, z1.rv.cap⟩
    obtain ⟨hcp1, hcp2⟩ := hcp
    clear k5 o7 o8 op oq GA GR SC SR LE
    go_wp2_with fail
    refine (SM.out).mono ?_
    rintro e w7 ⟨rfl, b7⟩
    have b17 := below_step b16 b7 (Nat.le_refl _)
    have k7 := (K1.later b17).four
    have o7' := o6'.below b7
    have op7 := op6.below b7 (R' := VlW w7 w4.heap.size) fun _ _ h => h.below b7
    clear k6 e1 e2 SM
    go_wp2_with fail
    refine (KP.out _ b17 o7'.rb).mono ?_
    rintro e _ ⟨rfl, rfl⟩
    have hz4 : w4.heap.size ≤ w7.heap.size := Nat.le_trans b46.size b7.size
    have b47 := below_step b46 b7 (Nat.le_refl _)
    clear k7
    go_wp2_with fail
    go_loopw [16] (fun i wr => ∃ k : Nat, k ≤ sl.length ∧ i = .int .i64 k ∧ Below w4.heap.size w7 wr ∧ SpU w7 wr) (fun i _ => sl.length - (intOf i).toNat)
    case atStart => exact ⟨0, by omega, rfl, Below.refl _ _, SpU.refl _⟩
    case round =>
      obtain ⟨k, hk, rfl, bb, hsp⟩ := hrel
      by_cases hlt : k < sl.length
      · have hf : sl[k]? = some (sl.getD k vl0) := by simp [List.getD, List.getElem?_eq_getElem hlt]
        obtain ⟨zs, z1, z2⟩ := op7
        obtain ⟨A9, n9, c9, e9, ow9⟩ := z2.2 k _ hf
        have z1' := z1.sp hsp (by decide)
        obtain ⟨bq, oq, e3, hbq, hcq⟩ := z1'.rv.at_ (by omega)
        subst e3
        have q2 : wr.cell? ⟨bq, oq + k * 3 + 2, none⟩ = some (.slice A9 n9 c9) := by
          have h5 : (zs.drop (k * 3))[2]? = some (.slice A9 n9 c9) := by
            have h6 : ((zs.drop (k * 3)).take 3)[2]? = some (.slice A9 n9 c9) := by rw [e9]; rfl
            rw [List.getElem?_take] at h6
            simpa using h6
          rw [List.getElem?_drop] at h5
          have := hcq _ _ h5
          rwa [← Nat.add_assoc] at this
        have wb9 := (ow9.wb).sp hsp
        have hn9 : n9 ≤ 9223372036854775807 := Nat.le_trans wb9.le wb9.cap
        have hd9 := hsm _ (List.mem_of_getElem? hf)
        have hl9 := ow9.len
        have SP := Lib.hid (Spoil_wb wr wb9 (by omega) (Nat.le_trans hz4 hsp.size))
        have hzr := Nat.le_trans hz4 hsp.size
        clear ow9 z1 z2 e9 z1' hcq hd9 hl9 hf
        go_wp2_with fail
        refine (SP.out).mono ?_
        rintro e w8 ⟨rfl, b8, sp8, _⟩
        go_wp2_with fail
        go_roundw
        case rel => exact ⟨k + 1, by omega, by go_num, bb.trans b8, hsp.trans sp8⟩
        case measure => simp [intOf] <;> omega
      · obtain rfl : k = sl.length := by omega
        have bw4 := b47.trans bb
        have bw1 := b14.trans (bw4.mono b14.size)
        have o8' := o6.below (below_step b24 bw4 (Nat.le_refl _))
        have k8 := (K1.later bw1).four
        have N1 := Lib.hid (fun w => Gather_nil A2 n2 c2 w)
        have N2 := Lib.hid (fun w => Scatter_nil A2 n2 c2 A6 bs.length c6 w)
        clear op7 hsp hsm o6 o6' o7'
        go_wp2_with fail
        refine (N1.out _).mono ?_
        rintro e _ ⟨rfl, rfl⟩
        go_wp2_with fail
        refine (N2.out _).mono ?_
        rintro e _ ⟨rfl, rfl⟩
        go_wp2_with fail
        refine (KP.out _ bw1 o8'.rb).mono ?_
        rintro e _ ⟨rfl, rfl⟩
        clear k8 N1 N2 o8'
        go_wp2_with fail
        refine (VD.out _ bw1).mono ?_
        rintro e w9 ⟨Av, cv, rfl, ov, b9⟩
        have bw9 := below_step bw1 b9 (Nat.le_refl _)
        go_wp2_with fail
        refine (VR.out _ bw9).mono ?_
        rintro e w10 ⟨Ax, cx, rfl, ox, b10⟩
        have bw10 := below_step bw9 b10 (Nat.le_refl _)
        have ov' := ov.below b10 (R' := VlW w10 _) fun _ _ h => h.below b10
        have SM := Lib.hid (VSame_any w10 (show RVl w10 w10.heap.size w10.heap.size Av D.l.length cv (Dc.valuesS D) from ov'.rs.imp fun _ _ h => h.vlc) (show RVl w10 w10.heap.size w10.heap.size Ax D.l.length cx (Dc.valuesS D) from ox.rs.imp fun _ _ h => h.vlc) (Nat.le_refl _) (Nat.le_refl _) (Nat.le_refl _) (Nat.le_refl _))
        clear ov ov' ox VD VR KP
        go_wp2_with fail
        refine (SM.out).mono ?_
        rintro e w11 ⟨rfl, b11⟩
        have bw11 := below_step bw10 b11 (Nat.le_refl _)
        go_wp2_with fail
        refine (known30_any _).mono ?_
        rintro e w12 ⟨rfl, b12⟩
        go_wp2_with fail
        go_ret
        exact ⟨rfl, below_step d1 (below_step bw11 b12 (Nat.le_refl _)) (Nat.le_refl _)⟩
end Go.Proofs.YtoplpmfdgaabfaaGreat
