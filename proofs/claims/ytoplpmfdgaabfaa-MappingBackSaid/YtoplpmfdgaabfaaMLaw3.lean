/-
  Walk: MappingBack.
  Conditions: none.
-/
import Derived.Test.YtoplpmfdgaabfaaJ04
import Derived.Test.YtoplpmfdgaabfaaJ13
import Derived.Test.YtoplpmfdgaabfaaJ15
import Derived.Test.YtoplpmfdgaabfaaJ20
import Derived.Test.YtoplpmfdgaabfaaJ21
namespace Go.Proofs.Ytoplpmfdgaabfaa
set_option linter.unusedVariables false
set_option linter.unusedSimpArgs false
open Go.ChangeShapes Go.WideShapes Go.ChangeAt Go.RowKit Go.Sort
theorem Two.d3 {w : World} {base g g' : Nat} {D D' : Dc.Dic} (h : Two w base g g' D D') : ∃ (F : Nat → Prop) (gv lc vc : Nat) (la : Addr) (vA : Option Addr) (xs vs : List Value), DRt 87 w F g gv (some la) lc vA vc xs vs D := by
  obtain ⟨F, F', ⟨gv, lc, vc, la, vA, xs, vs, h1, _⟩, _⟩ := h
  exact ⟨F, gv, lc, vc, la, vA, xs, vs, h1⟩
theorem beq_false_of {a b : Int} (h : ¬ a = b) : (a == b) = false := by simpa using h
theorem bne_true_of {a b : Int} (h : ¬ a = b) : (a != b) = true := by simpa using h
set_option maxRecDepth 100000 in
set_option maxHeartbeats 8000000 in
theorem MappingBack_walk (W : World) {A0 A1 A2 A3 : Option Addr} {n0 c0 n1 c1 n2 c2 n3 c3 : Nat} {es : List Ent.En} {vls : List Dc.Vl} {ws : List Nat} {bs : List UInt8} (h0 : REn W W.heap.size W.heap.size A0 n0 c0 es) (hnm : ∀ e ∈ es, e.name.length ≤ 9223372036854775807) (h1 : RVl W W.heap.size W.heap.size A1 n1 c1 vls)
    (h2 : RW W W.heap.size A2 n2 c2 ws) (hwl : ∀ x ∈ ws, x < 4294967296) (h3 : RB W W.heap.size A3 n3 c3 bs) :
    Calls Try.prog 5 #[.agg #[.slice A0 n0 c0, .slice A1 n1 c1, .slice A2 n2 c2, .slice A3 n3 c3]] W fun e W' => e = .returned (.bool true) ∧ Below W.heap.size W W' := by
  have b0 := alloc_one W (.cells #[.slice A0 n0 c0, .slice A1 n1 c1, .slice A2 n2 c2, .slice A3 n3 c3] 36)
  have K := Blk.new W 36 #[.slice A0 n0 c0, .slice A1 n1 c1, .slice A2 n2 c2, .slice A3 n3 c3]
  have K4 := K.four
  have MD := Lib.hid (made30_any (A2 := A2) (n2 := n2) (c2 := c2) (A3 := A3) (n3 := n3) (c3 := c3) (W.alloc (.cells #[.slice A0 n0 c0, .slice A1 n1 c1, .slice A2 n2 c2, .slice A3 n3 c3] 36)) (h0.below b0 (Nat.le_refl _)) hnm (h1.below b0 (Nat.le_refl _)) b0.size)
  go_enter Try.func5, Try.ntmps5
  go_wp2_with fail
  refine (MD.out).mono ?_
  rintro e w1 (⟨rfl, b1⟩ | ⟨g, g', D, rfl, b1, h100, h1000, TW, hfine, hd⟩)
  · clear K4
    go_wp2_with fail
    refine (known30_any _).mono ?_
    rintro e w5 ⟨rfl, b5⟩
    go_wp2_with fail
    go_ret
    exact ⟨rfl, below_step (below_step b0 b1 (Nat.le_refl _)) b5 (Nat.le_refl _)⟩
  · have d1 := below_step b0 b1 (Nat.le_refl _)
    have K1 := K.later b1
    clear K4 MD K b0 b1
    have k1 := K1.four
    have hdd : ∀ e ∈ D.l, e.dflt.length ≤ 1000000 := fun e he => by have := hd e he; omega
    have hvv : ∀ v ∈ D.v, v.length ≤ 1000000 := fun v hv => by have := hfine.sm v hv; omega
    obtain ⟨F, gv, lc, vc, la, vA, xs, vs, hD⟩ := TW.d3
    have CA := MCheck_any true hD hdd (h2.below d1) hwl d1.size
    have CB := fun (w : World) (hb : Below w1.heap.size w1 w) => MCheck_any false (hD.below hb) hdd (h2.below (below_step d1 hb (Nat.le_refl _))) hwl (below_step d1 hb (Nat.le_refl _)).size
    have hback := Mp.back (D := D) (ws := ws) hD.right hfine
    have hat := fun i => Mp.back_at (D := D) (ws := ws) (i := i)
    have h8 := Mp.check_each (l := D.l) (inn := true) (ws := ws)
    have GA := fun (w : World) (hb : Below w1.heap.size w1 w) => Gather_any (hD.below hb) hdd hvv (h2.below (below_step d1 hb (Nat.le_refl _))) hwl (below_step d1 hb (Nat.le_refl _)).size
    have SC := fun (w : World) (hb : Below w1.heap.size w1 w) {A' : Option Addr} {n' c' B' : Nat} {bs' : List UInt8} (hr : RB w B' A' n' c' bs') (hn : n' ≤ 1000000) (hB' : B' ≤ w.heap.size) => Scatter_any (hD.below hb) hdd (h2.below (below_step d1 hb (Nat.le_refl _))) hwl (below_step d1 hb (Nat.le_refl _)).size hr hn hB'
    have hl2 := h2.len
    subst hl2
    generalize Mp.checkS D.l true ws = r1 at *
    generalize Mp.checkS D.l false ws = r2 at *
    by_cases hr1 : r1 = 0
    · subst hr1
      by_cases hr2 : r2 = 0
      · subst hr2
        obtain ⟨b, e1, e2, e3, e4⟩ := hback rfl rfl
        obtain ⟨hn8, _⟩ := h8 rfl
        have hbl : b.length ≤ 8 ∧ (Mp.sizeS ws : Int) ≤ 8 * (b.length : Int) ∧ 8 * (b.length : Int) < (Mp.sizeS ws : Int) + 8 := by
          by_cases h0 : Mp.sizeS ws = 0
          · rw [h0] at e3
            have : (b.length : Int) = 0 := by rw [e3]; rfl
            omega
          · have := Bt.bytesS_pos (m := (Mp.sizeS ws : Int)) (by omega) (by omega)
            omega
        rw [e1] at GA
        have GA' := Lib.hid GA
        have SC' := Lib.hid (fun (w : World) (hb : Below w1.heap.size w1 w) {A' : Option Addr} {c' B' : Nat} (hr : RB w B' A' b.length c' b) (hB' : B' ≤ w.heap.size) => (show Calls Try.prog 17 _ w (ScatPost (Mp.scatterS D.l ws b) w) from SC w hb hr (by omega) hB'))
        have HE2 := Lib.hid e2
        have HAT := Lib.hid (fun i hi => hat i rfl hi)
        have SZ := Lib.hid (fun (w : World) (hb : Below w1.heap.size w1 w) => MSize_any w (h2.below (below_step d1 hb (Nat.le_refl _))) (by omega) hwl)
        have CB' := Lib.hid CB; have CA' := Lib.hid CA
        have PKY := Lib.hid (fun (w : World) (hb : Below w1.heap.size w1 w) (x y : Int) => dPeek_any x y (hD.below hb) hvv)
        have HW2 := Lib.hid (fun (w : World) (hb : Below w1.heap.size w1 w) (i : Nat) (hi : i < ws.length) => (h2.below (below_step d1 hb (Nat.le_refl _))).at_ hi)
        have hsz : (Mp.sizeS ws : Int) ≤ 64 := by omega
        clear CA CB GA SC hback hat h8 e1 e2 e3 hD TW hd hdd hvv hfine h0 h1 hnm h3
        go_wp2_with fail
        refine (CA'.out).mono ?_
        rintro e w2 ⟨rfl, b2⟩
        have K2 := K1.later b2
        have k2 := K2.four
        clear k1
        go_wp2_with fail
        refine (CB'.out _ b2).mono ?_
        rintro e w3 ⟨rfl, b3⟩
        have K3 := K2.later b3
        have k3 := K3.four
        have b13 := below_step b2 b3 (Nat.le_refl _)
        clear k2
        go_wp2_with fail
        refine (GA'.out _ b13).mono ?_
        rintro e w4 ⟨Ab, cb, rfl, ob, b4⟩
        dsimp only at ob
        have K4 := K3.later b4
        have k4 := K4.four
        have b14 := below_step b13 b4 (Nat.le_refl _)
        clear k3 b2 b3 b13
        go_wp2_with fail
        refine (SC'.out _ b14 ob.rb (Nat.le_refl _)).mono ?_
        rw [HE2.out]
        rintro e w5 ⟨Av, cv, rfl, os, b5⟩
        dsimp only at os
        rw [Mp.vlsK_length] at os
        have K5 := K4.later b5
        have k5 := K5.four
        have b15 := below_step b14 b5 (Nat.le_refl _)
        obtain ⟨hcv1, hcv2⟩ : ws.length ≤ cv ∧ cv ≤ 9223372036854775807 := by obtain ⟨zs, z1, _⟩ := os; exact ⟨z1.rv.le, z1.rv.cap⟩
        have hvl : (Mp.vlsK ws (Mp.fldsS D ws) ws.length).length = ws.length := Mp.vlsK_length _ _ _
        clear k4
        rw [hvl]
        generalize hss : (Mp.sizeS ws : Int) = ss at *
        clear hss
        go_wp2_with fail
        refine (SZ.out _ b15).mono ?_
        rintro e _ ⟨rfl, rfl⟩
        obtain ⟨hb1, hb2, hb3⟩ := hbl
        generalize hvs : Mp.vlsK ws (Mp.fldsS D ws) ws.length = VL at *
        have HVL := Lib.hid (fun i (hi : i < ws.length) => show VL[i]? = some ⟨(Mp.ix (ws.getD i 0) : Int), (Mp.sb (ws.getD i 0) : Int), ((Mp.fldsS D ws).getD i Bt.Fld.zero).data⟩ by rw [← hvs]; exact Mp.vlsK_at _ _ _ _ hi)
        clear hvs hvl
        have d5 := below_step d1 b15 (Nat.le_refl _)
        clear SZ GA' SC' CB' CA' HE2 b4 b5 b14 K1 K2 K3 K4 ob
        go_wp2_with fail
        clear k5
        go_loopw [11] (fun i wr => ∃ k : Nat, k ≤ ws.length ∧ i = .int .i64 k ∧ Below w5.heap.size w5 wr) (fun i _ => ws.length - (intOf i).toNat)
        case atStart => exact ⟨0, by omega, rfl, Below.refl _ _⟩
        case round =>
          obtain ⟨k, hk, rfl, bb⟩ := hrel
          have KK := K5.later bb
          have kk := KK.four
          have bw := below_step b15 bb (Nat.le_refl _)
          have dw := below_step d1 bw (Nat.le_refl _)
          by_cases hlt : k < ws.length
          · have os1 := os.below bb (R' := VlW wr w4.heap.size) fun _ _ h => h.below bb
            obtain ⟨b', o', cs, rfl, hbb, ⟨A2', n2', c2', rfl, ow⟩, hcc⟩ := RS.at_ os1.rs (by decide) (HVL.out k hlt)
            have hpk := HAT.out k hlt
            obtain ⟨bq, oq, rfl, hbq, w0⟩ := HW2.out wr bw k hlt
            have SP := fun w => MSplit_any (ws.getD k 0) (word_lt hwl k) w
            have q0 := hcc 0 _ (by decide) rfl
            have q1 := hcc 1 _ (by decide) rfl
            have q2 := hcc 2 _ (by decide) rfl
            have rw2 := ow.rb
            dsimp only at q0 q1 q2 rw2
            simp only [Nat.add_zero] at q0
            generalize ((Mp.fldsS D ws).getD k Bt.Fld.zero).data = dat at *
            generalize ws.getD k 0 = x at *
            generalize (Mp.ix x : Int) = ixx at *
            generalize (Mp.sb x : Int) = sbx at *
            generalize (Mp.bt x : Int) = btx at *
            have HPK := Lib.hid hpk
            clear hpk
            replace SP := Lib.hid SP
            have c0 := cell_regrown q0
            have c1 := cell_regrown q1
            have i0 : (0 : Int) ≤ (k : Int) := by omega
            have i1 : (k : Int) < (ws.length : Int) := by omega
            clear os1 ow hcc
            go_wp2_with fail
            refine region_later (by kernel_rfl) ?_
            refine phase_later (by kernel_rfl) 6 (below_drew _) [0, 1, 2, 6, 7, 3, 8, 4, 9, 5, 10] rfl (by kernel_rfl) ?_
            simp only [picks, nth]
            repeat (go_big_quiet_step (fail))
            refine wpQuiet_nil ?_
            refine phase_op 11 5 rfl (by kernel_rfl) (by decide) ?_
            simp only [nth]
            go_wp2_with fail
            refine ((PKY.out _ (bw.trans ((below_drew wr).mono bw.size)) _ _)).mono ?_
            rw [HPK.out]
            rintro e w7 ⟨A7, c7, rfl, o7, b7⟩
            have b7' : Below wr.heap.size wr w7 := (below_drew wr).trans b7
            go_wp2_with fail
            refine behind_later b7' ?_
            refine phase_later (by kernel_rfl) 0 (Below.refl _ _) [12, 13, 14, 15, 16] rfl (by kernel_rfl) ?_
            simp only [picks, nth]
            repeat (go_big_quiet_step (fail))
            refine wpQuiet_nil ?_
            refine phase_end (by kernel_rfl) ?_
            have bb7 := below_step bb b7' (Nat.le_refl _)
            have dd7 := below_step dw b7' (Nat.le_refl _)
            have K7 := (K5.later bb7).four
            have w0' := (b7'.cell (p := ⟨bq, oq + k, none⟩) (Nat.lt_of_lt_of_le hbq dw.size)).trans w0
            have q0' := (b7'.cell (p := ⟨b', o' + k * 3, none⟩) hbb).trans q0
            have q1' := (b7'.cell (p := ⟨b', o' + k * 3 + 1, none⟩) hbb).trans q1
            have q2' := (b7'.cell (p := ⟨b', o' + k * 3 + 2, none⟩) hbb).trans q2
            have e1 := fun d => convb (o7.rb.drewN d)
            have e2 := fun d => convb ((rw2.below b7').drewN d)
            have g1 : (ixx != ixx) = false := by simp
            have g2 : (sbx != sbx) = false := by simp
            clear c0 c1 q0 q1 q2 w0 kk o7 rw2 PKY HPK
            go_wp2_with fail
            refine (SP.out _).mono ?_
            rintro e _ ⟨rfl, rfl⟩
            go_wp2_with fail
            go_quiet (fail)
            have bbq := below_drewN bb7 nq
            go_wp2_with fail
            go_roundw
            case rel => exact ⟨k + 1, by omega, by go_num, bbq⟩
            case measure => simp [intOf] <;> omega
          · obtain rfl : k = ws.length := by omega
            go_wp2_with fail
            refine (known30_any _).mono ?_
            rintro e w6 ⟨rfl, b6⟩
            go_wp2_with fail
            go_ret
            exact ⟨rfl, below_step dw b6 (Nat.le_refl _)⟩
      · have hr2' := beq_false_of hr2
        have hr2'' := bne_true_of hr2
        have CB' := Lib.hid CB; have CA' := Lib.hid CA
        clear CA CB GA SC hback hat h8 hD TW hd hdd hvv hfine h0 h1 hnm h3 hr2
        go_wp2_with fail
        refine (CA'.out).mono ?_
        rintro e w2 ⟨rfl, b2⟩
        have K2 := K1.later b2
        have k2 := K2.four
        clear k1
        go_wp2_with fail
        refine (CB'.out _ b2).mono ?_
        rintro e w3 ⟨rfl, b3⟩
        go_wp2_with fail
        refine (known30_any _).mono ?_
        rintro e w6 ⟨rfl, b6⟩
        go_wp2_with fail
        go_ret
        exact ⟨rfl, below_step (below_step d1 (below_step b2 b3 (Nat.le_refl _)) (Nat.le_refl _)) b6 (Nat.le_refl _)⟩
    · have hr1' := beq_false_of hr1
      have hr1'' := bne_true_of hr1
      have CA' := Lib.hid CA
      clear CA CB GA SC hback hat h8 hD TW hd hdd hvv hfine h0 h1 hnm h3 hr1
      go_wp2_with fail
      refine (CA'.out).mono ?_
      rintro e w2 ⟨rfl, b2⟩
      go_wp2_with fail
      refine (known30_any _).mono ?_
      rintro e w6 ⟨rfl, b6⟩
      go_wp2_with fail
      go_ret
      exact ⟨rfl, below_step (below_step d1 b2 (Nat.le_refl _)) b6 (Nat.le_refl _)⟩
end Go.Proofs.Ytoplpmfdgaabfaa
