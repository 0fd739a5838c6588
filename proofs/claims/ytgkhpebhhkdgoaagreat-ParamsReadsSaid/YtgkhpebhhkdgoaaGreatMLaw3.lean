/-
  Walk: ParamsReads.
  Conditions: none.
-/
import Derived.Test.YtgkhpebhhkdgoaaGreatJ04
import Derived.Test.YtgkhpebhhkdgoaaGreatJ22
import Derived.Test.YtgkhpebhhkdgoaaGreatJ25
namespace Go.Proofs.YtgkhpebhhkdgoaaGreat
set_option linter.unusedVariables false
set_option linter.unusedSimpArgs false
open Go.ChangeShapes Go.WideShapes Go.ChangeAt Go.RowKit Go.Sort
set_option maxRecDepth 100000 in
set_option maxHeartbeats 16000000 in
theorem ParamsReads_walk (W : World) {A0 A1 A2 : Option Addr} {n0 c0 n1 c1 n2 c2 : Nat} {xi xj : Int} {es : List Ent.En} {vls : List Dc.Vl} {bs : List UInt8} (h0 : REn W W.heap.size W.heap.size A0 n0 c0 es) (hnm : ∀ e ∈ es, e.name.length ≤ 9223372036854775807) (h1 : RVl W W.heap.size W.heap.size A1 n1 c1 vls) (wi : (Lit.int .i64 xi).wf = true) (wj : (Lit.int .i64 xj).wf = true) (h2 : RB W W.heap.size A2 n2 c2 bs) (k : Int) (wk : (Lit.int .i64 k).wf = true) :
    Calls Tryz.prog 5 #[.agg #[.slice A0 n0 c0, .slice A1 n1 c1, .int .i64 xi, .int .i64 xj, .slice A2 n2 c2], .int .i64 k] W fun e W' => e = .returned (.bool true) ∧ Below W.heap.size W W' := by
  have b0 := alloc_one W (.cells #[.slice A0 n0 c0, .slice A1 n1 c1, .int .i64 xi, .int .i64 xj, .slice A2 n2 c2] 28)
  have K := Blk.new W 28 #[.slice A0 n0 c0, .slice A1 n1 c1, .int .i64 xi, .int .i64 xj, .slice A2 n2 c2]
  have F0 := K.cin
  have MD := Lib.hid (made33_any (A2 := A2) (n2 := n2) (c2 := c2) (xi := xi) (xj := xj) _ (h0.below b0 (Nat.le_refl _)) hnm (h1.below b0 (Nat.le_refl _)) b0.size)
  clear h0 hnm h1
  go_enter Tryz.func5, Tryz.ntmps5
  go_wp2_with fail
  refine (MD.out).mono ?_
  unfold MadeP
  rintro e w1 (⟨rfl, b1⟩ | ⟨g, g', D, rfl, b1, hn2, TW, hfine, hdf⟩)
  · go_wp2_with fail
    refine (known33_any _).mono ?_
    rintro e w9 ⟨rfl, b9⟩
    go_wp2_with fail
    go_ret
    exact ⟨rfl, below_step (below_step b0 b1 (Nat.le_refl _)) b9 (Nat.le_refl _)⟩
  have d1 := below_step b0 b1 (Nat.le_refl _)
  have K1 := K.later b1
  clear F0 MD b0 b1 K
  obtain ⟨FF, FF', ⟨gv, lc, vc, la, vA, xs, vs, hd, _⟩, ⟨gv', lc', vc', lA', vA', xs', vs', hr, _⟩, _⟩ := TW
  have hdd : ∀ e ∈ D.l, e.dflt.length ≤ 1000000 := fun e he => by have := hdf e he; omega
  have hvv : ∀ v ∈ D.v, v.length ≤ 1000000 := fun v hv => by have := hfine.sm v hv; omega
  have RP1 := fun (w2 : World) (hb : Below w1.heap.size w1 w2) => (Rpdo_any k (hd.below hb) hdd hvv).mono fun e w' h => h.q
  have RP2 := fun (w2 : World) (hb : Below w1.heap.size w1 w2) => (RRpdo_any k (hr.below hb) hfine).mono fun e w' h => h.q
  have TP1 := fun (w2 : World) (hb : Below w1.heap.size w1 w2) => (Tpdo_any k (hd.below hb) hdd hvv).mono fun e w' h => h.q
  have TP2 := fun (w2 : World) (hb : Below w1.heap.size w1 w2) => (RTpdo_any k (hr.below hb) hfine).mono fun e w' h => h.q
  have SY1 := fun (w2 : World) (hb : Below w1.heap.size w1 w2) => (Sync_any (hd.below hb) hdd hvv).mono fun e w' h => h.q
  have SY2 := fun (w2 : World) (hb : Below w1.heap.size w1 w2) => (RSync_any (hr.below hb) hfine).mono fun e w' h => h.q
  have PE1 := fun (w2 : World) (hb : Below w1.heap.size w1 w2) => Peers_any (hd.below hb) hdd hvv
  have PE2 := fun (w2 : World) (hb : Below w1.heap.size w1 w2) => RPeers_any (hr.below hb) hfine
  have PD1 := fun (w2 : World) (hb : Below w1.heap.size w1 w2) => Period_any (hd.below hb) hdd hvv
  have PD2 := fun (w2 : World) (hb : Below w1.heap.size w1 w2) => RPeriod_any (hr.below hb) hfine
  have NU1 := fun (w2 : World) (hb : Below w1.heap.size w1 w2) => Number_any xi xj (hd.below hb) hdd hvv
  have NU2 := fun (w2 : World) (hb : Below w1.heap.size w1 w2) => RNumber_any xi xj (hr.below hb) hfine
  have WD1 := fun (w2 : World) (hb : Below w1.heap.size w1 w2) => Words_any xi (hd.below hb) hdd hvv
  have WD2 := fun (w2 : World) (hb : Below w1.heap.size w1 w2) => RWords_any xi (hr.below hb) hfine
  have VD1 := fun (w2 : World) (hb : Below w1.heap.size w1 w2) => dVals_any (hd.below hb) hvv
  have VD2 := fun (w2 : World) (hb : Below w1.heap.size w1 w2) => rVals_any (hr.below hb) hvv
  unfold RpQ at RP1 RP2
  unfold TpQ at TP1 TP2
  unfold SyncQ at SY1 SY2
  unfold WordsP at WD1 WD2
  unfold ValsP at VD1 VD2
  generalize (Pm.rpdoS D k).getD (0, 0, []) = q1 at *
  generalize (Pm.rpdoS D k).isSome = s1 at *
  generalize (Pm.tpdoS D k).getD (0, 0, 0, 0, []) = q2 at *
  generalize (Pm.tpdoS D k).isSome = s2 at *
  generalize (Pm.syncS D).getD (0, 0) = q3 at *
  generalize (Pm.syncS D).isSome = s3 at *
  generalize Pm.peersS D = ps at *
  generalize Pm.periodS D = pd at *
  generalize Pm.numS D xi xj = nu at *
  generalize Pm.wordsS D xi = ws at *
  obtain ⟨qv, qt, qws⟩ := q1
  obtain ⟨tv, tt, ti, te, tws⟩ := q2
  obtain ⟨yv, yn⟩ := q3
  obtain ⟨nz, nb⟩ := nu
  dsimp only at RP1 RP2 TP1 TP2 SY1 SY2 NU1 NU2
  replace RP1 := Lib.hid RP1; replace RP2 := Lib.hid RP2; replace TP1 := Lib.hid TP1; replace TP2 := Lib.hid TP2; replace SY1 := Lib.hid SY1; replace SY2 := Lib.hid SY2; replace PE1 := Lib.hid PE1; replace PE2 := Lib.hid PE2; replace PD1 := Lib.hid PD1; replace PD2 := Lib.hid PD2; replace NU1 := Lib.hid NU1; replace NU2 := Lib.hid NU2; replace WD1 := Lib.hid WD1; replace WD2 := Lib.hid WD2; replace VD1 := Lib.hid VD1; replace VD2 := Lib.hid VD2
  clear hd hr hfine hdf hdd hvv h2
  go_wp2_with fail
  refine (RP1.out _ (Below.refl _ _)).mono ?_
  rintro e w2 ⟨A3, c3, rfl, o3, b2⟩
  have a3 := alloc_one w2 (.cells #[.int .u32 (qv : Int), .int .i64 qt, .slice A3 qws.length c3] 43)
  have KA := Blk.new w2 43 #[.int .u32 (qv : Int), .int .i64 qt, .slice A3 qws.length c3]
  have b13 := below_step b2 a3 (Nat.le_refl _)
  replace o3 := o3.below a3
  go_wp2_with fail
  generalize w2.alloc (.cells #[.int .u32 (qv : Int), .int .i64 qt, .slice A3 qws.length c3] 43) = w3 at *
  generalize w2.heap.size = ga at *
  clear a3 b2
  refine (RP2.out _ b13).mono ?_
  rintro e w4 ⟨A4, c4, rfl, o4, b4⟩
  have a5 := alloc_one w4 (.cells #[.int .u32 (qv : Int), .int .i64 qt, .slice A4 qws.length c4] 52)
  have KB := Blk.new w4 52 #[.int .u32 (qv : Int), .int .i64 qt, .slice A4 qws.length c4]
  have b35 := below_step b4 a5 (Nat.le_refl _)
  have b15 := below_step b13 b35 (Nat.le_refl _)
  replace o3 := o3.below b35
  replace KA := KA.later b35
  replace o4 := o4.below a5
  go_wp2_with fail
  generalize w4.alloc (.cells #[.int .u32 (qv : Int), .int .i64 qt, .slice A4 qws.length c4] 52) = w5 at *
  generalize w4.heap.size = gb at *
  clear a5 b4 b35 b13
  refine (TP1.out _ b15).mono ?_
  rintro e w6 ⟨A6, c6, rfl, o6, b6⟩
  have a7 := alloc_one w6 (.cells #[.int .u32 (tv : Int), .int .i64 tt, .int .i64 ti, .int .i64 te, .slice A6 tws.length c6] 48)
  have KC := Blk.new w6 48 #[.int .u32 (tv : Int), .int .i64 tt, .int .i64 ti, .int .i64 te, .slice A6 tws.length c6]
  have b57 := below_step b6 a7 (Nat.le_refl _)
  have b17 := below_step b15 b57 (Nat.le_refl _)
  replace o3 := o3.below b57
  replace o4 := o4.below b57
  replace KA := KA.later b57
  replace KB := KB.later b57
  replace o6 := o6.below a7
  go_wp2_with fail
  generalize w6.alloc (.cells #[.int .u32 (tv : Int), .int .i64 tt, .int .i64 ti, .int .i64 te, .slice A6 tws.length c6] 48) = w7 at *
  generalize w6.heap.size = gc at *
  clear a7 b6 b57 b15
  refine (TP2.out _ b17).mono ?_
  rintro e w8 ⟨A8, c8, rfl, o8, b8⟩
  have a9 := alloc_one w8 (.cells #[.int .u32 (tv : Int), .int .i64 tt, .int .i64 ti, .int .i64 te, .slice A8 tws.length c8] 55)
  have KD := Blk.new w8 55 #[.int .u32 (tv : Int), .int .i64 tt, .int .i64 ti, .int .i64 te, .slice A8 tws.length c8]
  have b79 := below_step b8 a9 (Nat.le_refl _)
  have b19 := below_step b17 b79 (Nat.le_refl _)
  replace o3 := o3.below b79
  replace o4 := o4.below b79
  replace o6 := o6.below b79
  replace KA := KA.later b79
  replace KB := KB.later b79
  replace KC := KC.later b79
  replace o8 := o8.below a9
  have FA := KA.three
  have FB := KB.three
  have SM := Lib.hid (same33_any o3.rw o4.rw (Nat.le_refl _) (Nat.le_refl _))
  clear a9 b8 b79 b17 o3 o4 KA KB RP1 RP2 TP1 TP2
  go_wp2_with fail
  refine (SM.out).mono ?_
  rintro e w10 ⟨rfl, b10⟩
  have FC := (KC.later b10).cin
  have FD := (KD.later b10).cin
  have b110 := below_step b19 b10 (Nat.le_refl _)
  have SM2 := Lib.hid (same33_any (o6.below b10).rw (o8.below b10).rw (Nat.le_refl _) (Nat.le_refl _))
  clear SM FA FB KC KD o6 o8 b19
  go_wp2_with fail
  refine (SM2.out).mono ?_
  rintro e w11 ⟨rfl, b11⟩
  have b111 := below_step b110 b11 (Nat.le_refl _)
  clear SM2 FC FD b110 b10 b11
  go_wp2_with fail
  refine (SY1.out _ b111).mono ?_
  rintro e w12 ⟨rfl, b12⟩
  have b112 := below_step b111 b12 (Nat.le_refl _)
  go_wp2_with fail
  refine (SY2.out _ b112).mono ?_
  rintro e w13 ⟨rfl, b13⟩
  have b113 := below_step b112 b13 (Nat.le_refl _)
  go_wp2_with fail
  refine (PE1.out _ b113).mono ?_
  rintro e w14 ⟨A14, c14, rfl, hp14, b14⟩
  have b114 := below_step b113 b14 (Nat.le_refl _)
  go_wp2_with fail
  refine (PE2.out _ b114).mono ?_
  rintro e w15 ⟨A15, c15, rfl, p15, b15⟩
  have b115 := below_step b114 b15 (Nat.le_refl _)
  have SM := Lib.hid (same33_any (hp14 w15 (fun _ => False) (Mv.of_new b15 _) fun _ h => h.elim) p15 (Nat.le_refl _) (Nat.le_refl _))
  clear hp14 p15 SY1 SY2 PE1 PE2
  go_wp2_with fail
  refine (SM.out).mono ?_
  rintro e w16 ⟨rfl, b16⟩
  have b116 := below_step b115 b16 (Nat.le_refl _)
  clear SM b111 b112 b113 b114 b115 b12 b13 b14 b15 b16
  go_wp2_with fail
  refine (PD1.out _ b116).mono ?_
  rintro e w17 ⟨rfl, b17⟩
  have b117 := below_step b116 b17 (Nat.le_refl _)
  go_wp2_with fail
  refine (PD2.out _ b117).mono ?_
  rintro e w18 ⟨rfl, b18⟩
  have b118 := below_step b117 b18 (Nat.le_refl _)
  have K18 := (K1.later b118).cin
  clear PD1 PD2 b116 b117 b17 b18
  go_wp2_with fail
  refine (NU1.out _ b118).mono ?_
  rintro e w19 ⟨rfl, b19⟩
  have b119 := below_step b118 b19 (Nat.le_refl _)
  have K19 := (K1.later b119).cin
  clear K18
  go_wp2_with fail
  refine (NU2.out _ b119).mono ?_
  rintro e _ ⟨rfl, rfl⟩
  have q2 := cell_regrown K19.1.2.2.1
  clear NU1 NU2 K19 b118 b19
  go_wp2_with fail
  refine region_later (by kernel_rfl) ?_
  refine phase_later (by kernel_rfl) 15 (below_drew _) [0, 1, 2, 3, 4, 5, 6, 7, 8, 9, 10, 14, 15, 11, 16, 12, 17] rfl (by kernel_rfl) ?_
  simp only [picks, nth]
  repeat (go_big_quiet_step (fail))
  refine wpQuiet_nil ?_
  refine phase_op 13 14 rfl (by kernel_rfl) (by decide) ?_
  simp only [nth]
  go_wp2_with fail
  have b120 := below_step b119 (below_drew w19) (Nat.le_refl _)
  refine (WD1.out _ b120).mono ?_
  rintro e w21 ⟨A21, c21, rfl, o21, b21⟩
  have b121 := below_step b120 b21 (Nat.le_refl _)
  have s21 : Below w19.heap.size w19 w21 := (below_drew w19).trans b21
  go_wp2_with fail
  refine behind_since s21 ?_
  refine phase_op 18 13 rfl (by kernel_rfl) (by decide) ?_
  simp only [nth]
  go_wp2_with fail
  refine (WD2.out _ b121).mono ?_
  rintro e w22 ⟨A22, c22, rfl, o22, b22⟩
  have b122 := below_step b121 b22 (Nat.le_refl _)
  have s22 := below_step s21 b22 (Nat.le_refl _)
  have SM := Lib.hid (same33_any (o21.below b22).rw o22.rw (Nat.le_refl _) (Nat.le_refl _))
  clear o21 o22
  go_wp2_with fail
  refine behind_since s22 ?_
  refine phase_op 19 12 rfl (by kernel_rfl) (by decide) ?_
  simp only [nth]
  go_wp2_with fail
  refine (SM.out).mono ?_
  rintro e w23 ⟨rfl, b23⟩
  have b123 := below_step b122 b23 (Nat.le_refl _)
  have s23 := below_step s22 b23 (Nat.le_refl _)
  clear SM b120 b121 b122
  go_wp2_with fail
  refine behind_since s23 ?_
  refine phase_later (by kernel_rfl) 8 s23 [20, 21, 22, 24] rfl (by kernel_rfl) ?_
  simp only [picks, nth]
  repeat (go_big_quiet_step (fail))
  refine wpQuiet_nil ?_
  refine phase_op 23 7 rfl (by kernel_rfl) (by decide) ?_
  simp only [nth]
  go_wp2_with fail
  refine (VD1.out _ b123).mono ?_
  rintro e w24 ⟨A24, c24, rfl, o24, b24⟩
  have b124 := below_step b123 b24 (Nat.le_refl _)
  have s24 := below_step s23 b24 (Nat.le_refl _)
  go_wp2_with fail
  refine behind_since s24 ?_
  refine phase_op 25 6 rfl (by kernel_rfl) (by decide) ?_
  simp only [nth]
  go_wp2_with fail
  refine (VD2.out _ b124).mono ?_
  rintro e w25 ⟨A25, c25, rfl, o25, b25⟩
  have b125 := below_step b124 b25 (Nat.le_refl _)
  have s25 := below_step s24 b25 (Nat.le_refl _)
  have o24' := o24.below b25 (R' := VlW w25 _) fun _ _ h => h.below b25
  have SM := Lib.hid (VSame_any w25 (show RVl w25 w25.heap.size w25.heap.size A24 D.l.length c24 (Dc.valuesS D) from o24'.rs.imp fun _ _ h => h.vlc33) (show RVl w25 w25.heap.size w25.heap.size A25 D.l.length c25 (Dc.valuesS D) from o25.rs.imp fun _ _ h => h.vlc33) (Nat.le_refl _) (Nat.le_refl _) (Nat.le_refl _) (Nat.le_refl _))
  clear o24 o25 o24'
  go_wp2_with fail
  refine behind_since s25 ?_
  refine phase_op 26 5 rfl (by kernel_rfl) (by decide) ?_
  simp only [nth]
  go_wp2_with fail
  refine (SM.out).mono ?_
  rintro e w26 ⟨rfl, b26⟩
  have b126 := below_step b125 b26 (Nat.le_refl _)
  have s26 := below_step s25 b26 (Nat.le_refl _)
  clear SM b123 b124 b125 VD1 VD2 WD1 WD2
  go_wp2_with fail
  refine behind_since s26 ?_
  refine phase_later (by kernel_rfl) 3 s26 [27, 28] rfl (by kernel_rfl) ?_
  simp only [picks, nth]
  repeat (go_big_quiet_step (fail))
  refine wpQuiet_nil ?_
  refine phase_op 29 2 rfl (by kernel_rfl) (by decide) ?_
  simp only [nth]
  go_wp2_with fail
  refine (known33_any _).mono ?_
  rintro e w27 ⟨rfl, b27⟩
  have b127 := below_step b126 b27 (Nat.le_refl _)
  have s27 := below_step s26 b27 (Nat.le_refl _)
  go_wp2_with fail
  refine behind_since s27 ?_
  refine phase_later (by kernel_rfl) 0 s27 [30, 31] rfl (by kernel_rfl) ?_
  simp only [picks, nth]
  repeat (go_big_quiet_step (fail))
  refine wpQuiet_nil ?_
  refine phase_end (by kernel_rfl) ?_
  go_wp2_with fail
  go_ret
  exact ⟨rfl, below_step d1 b127 (Nat.le_refl _)⟩
end Go.Proofs.YtgkhpebhhkdgoaaGreat
