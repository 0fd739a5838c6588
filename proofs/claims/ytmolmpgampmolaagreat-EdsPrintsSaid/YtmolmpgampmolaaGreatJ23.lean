/-
  Texts joined: DicNew, EdsPrint.
  Conditions: none.
-/
import Derived.Test.YtmolmpgampmolaaGreatJ06
import Derived.Test.YtmolmpgampmolaaGreatJ13
import Derived.Test.YtmolmpgampmolaaGreatJ16
import Derived.Test.YtmolmpgampmolaaGreatJ22
import Derived.Deep.QuietTactic
import Derived.BigQuiet
import Derived.IntWalk
/-
  Walk: New of layer 15.
  Conditions: none.
-/
namespace Go.Proofs.YtmolmpgampmolaaGreat
set_option linter.unusedVariables false
set_option linter.unusedSimpArgs false
open Go.RowKit
set_option maxRecDepth 100000 in
set_option maxHeartbeats 4000000 in
theorem dNew_any {A : Option Addr} {n c B B' : Nat} {es : List Ent.En} (w : World) (h : REn w B B' A n c es) (hB : B ≤ w.heap.size) (hB' : B' ≤ B) (hd : ∀ e ∈ es, e.name.length ≤ 1000000 ∧ e.dflt.length ≤ 1000000) : Calls Tryz.prog 27 #[.slice A n c] w (NewPost 99 es w) := by
  have hl := h.len
  have hn := h.lt
  by_cases h96 : 96 < n
  · have hv : Dc.newS es = (3, 96) := if_pos (by omega)
    have HV := Lib.hid hv
    clear hv hl
    go_enter Tryz.func27, Tryz.ntmps27
    go_wp2_with fail
    go_ret3
    exact new_no HV.out (by decide) rfl (Below.refl _ _)
  have HN : Hid (Dc.newS es = Dc.newF es (n - 0) 0) := Lib.hid (by unfold Dc.newS; rw [if_neg (by omega), hl]; rfl)
  have HL := Lib.hid hl
  clear hl
  have b00 := alloc_two w (.cells #[] 31) (.cells #[.slice (some ⟨w.heap.size, 0, none⟩) 0 0, .slice none 0 0] 99)
  have N0 : NwM 99 ((w.alloc (.cells #[] 31)).alloc (.cells #[.slice (some ⟨w.heap.size, 0, none⟩) 0 0, .slice none 0 0] 99)) w.heap.size (w.heap.size + 1) (some ⟨w.heap.size, 0, none⟩) 0 0 none 0 0 [] [] :=
    ⟨by omega, by have := Blk.new (w.alloc (.cells #[] 31)) 99 #[.slice (some ⟨w.heap.size, 0, none⟩) 0 0, .slice none 0 0]; simpa using this, ⟨[], (OV.new (base := w.heap.size) (e := 31) (size := 11) w [] 0 rfl (by omega) (Nat.le_refl _)).alloc _, Rows.nil⟩, OS.none_ _ _ _ _⟩
  go_enter Tryz.func27, Tryz.ntmps27
  go_wp2_with fail
  go_loopw [17] (fun v wr => ∃ (k : Nat) (la : Addr) (lc : Nat) (vA : Option Addr) (vc : Nat), k ≤ n ∧ v = .int .i64 k ∧ NwM 99 wr w.heap.size (w.heap.size + 1) (some la) k lc vA k vc (es.take k) ((es.take k).map (·.dflt)) ∧ Below w.heap.size w wr ∧ Hid (Dc.newS es = Dc.newF es (n - k) k)) (fun v _ => n - (intOf v).toNat)
  case atStart => exact ⟨0, _, _, _, _, by omega, rfl, N0, b00, HN⟩
  case round =>
    obtain ⟨k, la, lc, vA, vc, hk, rfl, N, bb, HQ⟩ := hrel
    clear N0 HN
    by_cases hlt : k < n
    · obtain ⟨b, o, A1, n1, c1, hA, hbB, hr0, hc⟩ := h.at_ hlt
      have hst := HQ.out.trans (newF_step hlt)
      have hmem : es.getD k Dc.en0 ∈ es := by
        have : k < es.length := by rw [HL.out]; exact hlt
        rw [List.getD_eq_getElem?_getD, List.getElem?_eq_getElem this]
        exact List.getElem_mem this
      obtain ⟨hnm, hdf0⟩ := hd _ hmem
      have htk : es.take (k + 1) = es.take k ++ [es.getD k Dc.en0] := by
        have : k < es.length := by rw [HL.out]; exact hlt
        rw [List.take_succ_eq_append_getElem this]
        simp [List.getD, this]
      have HTK : Hid (es.take (k + 1) = es.take k ++ [es.getD k Dc.en0] ∧ (es.take (k + 1)).map (·.dflt) = (es.take k).map (·.dflt) ++ [(es.getD k Dc.en0).dflt]) := Lib.hid ⟨htk, by rw [htk, List.map_append]; rfl⟩
      have hdl := hr0.len
      subst hA
      generalize he : es.getD k Dc.en0 = e0 at *
      clear he htk hmem
      obtain ⟨ix, sb, nm, ty, ac, mp, st, mx, lo, hi, df⟩ := e0
      dsimp only at hr0 hnm hdf0 hdl hst HTK
      have hdf : n1 < 140737488355328 := by omega
      have hbw : b < w.heap.size := by omega
      have hR := fun (w1 : World) (q : Below w.heap.size w w1) => Right_any ⟨ix, sb, nm, ty, ac, mp, st, mx, lo, hi, df⟩ (A := A1) (n := n1) (c := c1) w1 (hr0.below (q.mono (Nat.le_trans hB' hB))) (Nat.le_trans (Nat.le_trans hB' hB) q.size) (by dsimp only; omega)
      unfold enV at hR
      dsimp only at hR
      have hg7 : w.heap.size + 1 < wr.heap.size := N.blk.lt
      obtain ⟨Gq, hGq⟩ : ∃ Gq : Nat → Prop, ∀ q, Gq q ↔ (w.heap.size ≤ q ∧ q ≠ w.heap.size + 1 ∧ q ≠ wr.heap.size) := ⟨_, fun q => Iff.rfl⟩
      have hGg : ¬ Gq (w.heap.size + 1) := fun h => ((hGq _).1 h).2.1 rfl
      have hG7 : ¬ Gq wr.heap.size := fun h => ((hGq _).1 h).2.2 rfl
      have hOwn : ∀ b, some b = (Value.slice (some la) k lc).ownBlock → Gq b := fun b hb => by
        obtain ⟨zs, z1, _⟩ := N.row
        have := z1.lt b hb.symm
        exact (hGq b).2 ⟨this.1, fun e => own_blk_ne z1 N.blk (by decide) (by rw [← hb, e]), by omega⟩
      have hOwnV : ∀ b, some b = (Value.slice vA k vc).ownBlock → Gq b := fun b hb => by
        obtain ⟨zs, z1, _⟩ := N.vrow
        have := z1.lt b hb.symm
        exact (hGq b).2 ⟨this.1, fun e => own_blk_ne z1 N.blk (by decide) (by rw [← hb, e]), by omega⟩
      clear hGq
      have a0 := (bb.cell (p := ⟨b, o + k * 11 + 0, none⟩) hbw).trans (hc 0 _ rfl)
      have a1 := (bb.cell (p := ⟨b, o + k * 11 + 1, none⟩) hbw).trans (hc 1 _ rfl)
      have a2 := (bb.cell (p := ⟨b, o + k * 11 + 2, none⟩) hbw).trans (hc 2 _ rfl)
      have a3 := (bb.cell (p := ⟨b, o + k * 11 + 3, none⟩) hbw).trans (hc 3 _ rfl)
      have a4 := (bb.cell (p := ⟨b, o + k * 11 + 4, none⟩) hbw).trans (hc 4 _ rfl)
      have a5 := (bb.cell (p := ⟨b, o + k * 11 + 5, none⟩) hbw).trans (hc 5 _ rfl)
      have a6 := (bb.cell (p := ⟨b, o + k * 11 + 6, none⟩) hbw).trans (hc 6 _ rfl)
      have a7 := (bb.cell (p := ⟨b, o + k * 11 + 7, none⟩) hbw).trans (hc 7 _ rfl)
      have a8 := (bb.cell (p := ⟨b, o + k * 11 + 8, none⟩) hbw).trans (hc 8 _ rfl)
      have a9 := (bb.cell (p := ⟨b, o + k * 11 + 9, none⟩) hbw).trans (hc 9 _ rfl)
      have a10 := (bb.cell (p := ⟨b, o + k * 11 + 10, none⟩) hbw).trans (hc 10 _ rfl)
      simp only [Nat.add_zero] at a0
      have b7 := bb.alloc bb.size (.cells #[.int .i64 ix, .int .i64 sb, .string (T nm), .int .i64 ty, .int .i64 ac, .bool mp, .bool st, .int .i64 mx, .int .i64 lo, .int .i64 hi, .slice A1 n1 c1] 31)
      have RG := Lib.hid (hR _ b7)
      clear hc hR
      have i0 : (0 : Int) ≤ (k : Int) := by omega
      have i1 : (k : Int) < (n : Int) := by omega
      by_cases hrz : Ent.rightS ⟨ix, sb, nm, ty, ac, mp, st, mx, lo, hi, df⟩ = 0
      · rw [hrz] at RG hst
        rw [if_neg (by decide)] at hst
        by_cases hk0 : k = 0
        · rw [if_neg (by omega)] at hst
          have HNX := Lib.hid hst
          have i4 : decide (0 < k) = false := decide_eq_false (by omega)
          clear hst hrz hk0
          go_wp2_with fail
          refine (RG.out).mono ?_
          rintro e w1 ⟨rfl, b1⟩
          have K7 := Blk.made b1
          have K7e := K7.eleven
          have d1 := below_step b7 b1 (Nat.le_refl _)
          replace N := (N.below (alloc_one wr (.cells #[.int .i64 ix, .int .i64 sb, .string (T nm), .int .i64 ty, .int .i64 ac, .bool mp, .bool st, .int .i64 mx, .int .i64 lo, .int .i64 hi, .slice A1 n1 c1] 31))).below b1
          clear RG
          go_wp2_with fail
          go_quiet (fail)
          have dc := below_drewN d1 nq
          replace N := N.below (below_drewN (Below.refl _ w1) nq)
          replace K7 := K7.drewN nq
          clear K7e d1
          generalize w1.drewN nq = wc at *
          -- the entry
          have HELD := held_any ⟨ix, sb, nm, ty, ac, mp, st, mx, lo, hi, df⟩ wc.drew (hr0.below (dc.drew.mono (Nat.le_trans hB' hB))) hdf (Nat.le_trans (Nat.le_trans hB' hB) dc.drew.size)
          unfold enV at HELD
          dsimp only at HELD
          replace HELD := Lib.hid HELD
          have t0 := cell_mv (G := Gq) (N.blk.cell 0) hGg
          have k0 := cell_mv (G := Gq) (K7.cell 0) hG7
          have k1 := cell_mv (G := Gq) (K7.cell 1) hG7
          have k2 := cell_mv (G := Gq) (K7.cell 2) hG7
          have k3 := cell_mv (G := Gq) (K7.cell 3) hG7
          have k4 := cell_mv (G := Gq) (K7.cell 4) hG7
          have k5 := cell_mv (G := Gq) (K7.cell 5) hG7
          have k6 := cell_mv (G := Gq) (K7.cell 6) hG7
          have k7 := cell_mv (G := Gq) (K7.cell 7) hG7
          have k8 := cell_mv (G := Gq) (K7.cell 8) hG7
          have k9 := cell_mv (G := Gq) (K7.cell 9) hG7
          have k10 := cell_mv (G := Gq) (K7.cell 10) hG7
          go_wp2_with fail
          refine region_mv 11 Gq (by kernel_rfl) ?_
          refine phase_mv (by kernel_rfl) 6 (Mv.refl _ _).drew [0, 1, 5, 2, 3, 4] rfl (by kernel_rfl) ?_
          simp only [picks, nth]
          repeat (go_big_quiet_step (fail))
          refine wpQuiet_nil ?_
          refine phase_opL 6 5 rfl (by kernel_rfl) (by decide) ?_
          simp only [nth]
          go_wp2_with fail
          refine (HELD.out).mono ?_
          rintro e w3 ⟨A3, c3, rfl, o3, b3⟩
          have b3' : Below wc.heap.size wc w3 := (below_drew wc).trans b3
          go_wp2_with fail
          refine behind_mv (Mv.of_new b3' _) ?_
          refine phase_opL 7 4 rfl (by kernel_rfl) (by decide) ?_
          simp only [nth]
          go_wp2_with fail
          have b4 := alloc_one w3 (.cells #[.int .i64 ix, .int .i64 sb, .string (T nm), .int .i64 ty, .int .i64 ac, .bool mp, .bool st, .int .i64 mx, .int .i64 lo, .int .i64 hi, .slice A3 n1 c3] 31)
          have D4 := below_step b3' b4 (Nat.le_refl _)
          refine behind_mv (Mv.of_new D4 _) ?_
          have N4 := N.below D4
          have hnew := RV.new w3 31 (size := 11) (cs := enL ⟨ix, sb, nm, ty, ac, mp, st, mx, lo, hi, df⟩ A3 n1 c3) rfl
          have hf4 : EnB (w3.alloc (.cells #[.int .i64 ix, .int .i64 sb, .string (T nm), .int .i64 ty, .int .i64 ac, .bool mp, .bool st, .int .i64 mx, .int .i64 lo, .int .i64 hi, .slice A3 n1 c3] 31)) w.heap.size ⟨ix, sb, nm, ty, ac, mp, st, mx, lo, hi, df⟩ (enL ⟨ix, sb, nm, ty, ac, mp, st, mx, lo, hi, df⟩ A3 n1 c3) := ⟨A3, n1, c3, rfl, (o3.more dc.drew.size).below b4⟩
          have D40 := below_step dc D4 (Nat.le_refl _)
          refine phase_opL 8 3 rfl (by kernel_rfl) (by decide) ?_
          simp only [nth]
          go_wp2_with (at_builtin; refine wpList_apps2 eten (fun w1 => EnB w1 w.heap.size) rfl (.tmp 45) (.tmp 48) rfl rfl rfl w.heap.size N4.row ⟨ix, sb, nm, ty, ac, mp, st, mx, lo, hi, df⟩ hnew hf4 (en_oneCell _ _ _ _) (by omega) (by omega) D40.size (fun w1 A1 n1 c1 xs hv hg f cs hf => hf.beside hv (by decide) hg) ?_; intro A5 c5 w5 o5 b5 g5 _)
          have M5 : Mv Gq wc w5 := (Mv.of_new D4 _).trans (Mv.of_grown g5) fun b hb e => hOwn b e
          refine behind_mv M5 ?_
          refine phase_opL 9 2 rfl (by kernel_rfl) (by decide) ?_
          simp only [nth]
          go_wp2_with fail
          refine behind_mv M5 ?_
          refine phase_opL 10 1 rfl (by kernel_rfl) (by decide) ?_
          simp only [nth]
          go_wp2_with fail
          refine behind_mv M5 ?_
          have F5 := (N.blk.mv M5 hGg).two
          have K75 := (K7.mv M5 hG7).far (p := ⟨w.heap.size + 1, 0, none⟩) (by dsimp only; omega) (.slice A5 (k + 1) c5)
          refine phase_last 0 rfl (by kernel_rfl) (by decide) (by kernel_rfl) ?_
          simp only [nth]
          go_wp2_with fail
          refine behind_last ?_
          have N6 := N4.addl (by decide) (by decide) (by decide) o5 g5
          have d6 : Below w.heap.size w (w5.setCell ⟨w.heap.size + 1, 0, none⟩ (.slice A5 (k + 1) c5)) := (D40.trans b5).setCell (p := ⟨w.heap.size + 1, 0, none⟩) (by dsimp only; omega) _
          have hA5 : ∃ la5 : Addr, A5 = some la5 := by
            obtain ⟨zs, z1, _⟩ := o5
            obtain ⟨q, e, _, _⟩ := z1.head (by omega)
            exact ⟨_, e⟩
          have hOwn5 : ∀ b, some b = (Value.slice vA k vc).ownBlock → Gq b := hOwnV
          obtain ⟨la5, rfl⟩ := hA5
          generalize hwd : w5.setCell ⟨w.heap.size + 1, 0, none⟩ (.slice (some la5) (k + 1) c5) = wd at *
          clear hwd N4 N HELD t0 k0 k1 k2 k3 k4 k5 k6 k7 k8 k9 k10 F5 o5 g5 M5 D4 D40 hf4 hnew b4 b3 b3' o3 K7 hOwn
          have K7 := K75
          clear K75
          -- its value
          have OWN := Lib.hid (down_any wd.drew (hr0.below (d6.drew.mono (Nat.le_trans hB' hB))) hdf (Nat.le_trans (Nat.le_trans hB' hB) d6.drew.size))
          have t1 := cell_mv (G := Gq) (N6.blk.cell 1) hGg
          have k10 := cell_mv (G := Gq) (K7.cell 10) hG7
          go_wp2_with fail
          refine region_mv 12 Gq (by kernel_rfl) ?_
          refine phase_mv (by kernel_rfl) 6 (Mv.refl _ _).drew [0, 1, 5, 2, 6, 3, 4] rfl (by kernel_rfl) ?_
          simp only [picks, nth]
          repeat (go_big_quiet_step (fail))
          refine wpQuiet_nil ?_
          refine phase_opL 7 5 rfl (by kernel_rfl) (by decide) ?_
          simp only [nth]
          go_wp2_with fail
          refine (OWN.out).mono ?_
          rintro e w3 ⟨A3, c3, rfl, o3, b3⟩
          have b3' : Below wd.heap.size wd w3 := (below_drew wd).trans b3
          go_wp2_with fail
          refine behind_mv (Mv.of_new b3' _) ?_
          refine phase_opL 8 4 rfl (by kernel_rfl) (by decide) ?_
          simp only [nth]
          go_wp2_with fail
          have b4 := alloc_one w3 (.cells #[.slice A3 n1 c3] 29)
          have D4 := below_step b3' b4 (Nat.le_refl _)
          refine behind_mv (Mv.of_new D4 _) ?_
          have N4 := N6.below D4
          have hnew := RV.new w3 29 (size := 1) (cs := [.slice A3 n1 c3]) rfl
          have hf4 : ByB (w3.alloc (.cells #[.slice A3 n1 c3] 29)) w.heap.size df [.slice A3 n1 c3] := ⟨A3, n1, c3, rfl, (o3.more d6.drew.size).below b4⟩
          have D40 := below_step d6 D4 (Nat.le_refl _)
          refine phase_opL 9 3 rfl (by kernel_rfl) (by decide) ?_
          simp only [nth]
          go_wp2_with (at_builtin; refine wpList_apps2 etbs (fun w1 => ByB w1 w.heap.size) rfl (.tmp 56) (.tmp 60) rfl rfl rfl w.heap.size N4.vrow df hnew hf4 (fun u hu => by simp only [List.mem_cons, List.not_mem_nil, or_false] at hu; rw [hu]; rfl) (by omega) (by omega) D40.size (fun w1 A1 n1 c1 xs hv hg f cs hf => hf.beside hv (by decide) hg) ?_; intro A6 c6 w6 o6 b6 g6 _)
          have M5 : Mv Gq wd w6 := (Mv.of_new D4 _).trans (Mv.of_grown g6) fun b hb e => hOwn5 b e
          refine behind_mv M5 ?_
          refine phase_opL 10 2 rfl (by kernel_rfl) (by decide) ?_
          simp only [nth]
          go_wp2_with fail
          refine behind_mv M5 ?_
          refine phase_opL 11 1 rfl (by kernel_rfl) (by decide) ?_
          simp only [nth]
          go_wp2_with fail
          refine behind_mv M5 ?_
          have F5 := (N6.blk.mv M5 hGg).two
          refine phase_last 0 rfl (by kernel_rfl) (by decide) (by kernel_rfl) ?_
          simp only [nth]
          go_wp2_with fail
          refine behind_last ?_
          have N7 := N4.addv (by decide) (by decide) (by decide) o6 g6
          have d7 : Below w.heap.size w (w6.setCell ⟨w.heap.size + 1, 1, none⟩ (.slice A6 (k + 1) c6)) := (D40.trans b6).setCell (p := ⟨w.heap.size + 1, 1, none⟩) (by dsimp only; omega) _
          clear t1 k10 F5 N4 N6 OWN K7
          go_wp2_with fail
          go_roundw
          case rel => exact ⟨k + 1, la5, c5, A6, c6, by omega, by go_num, by rw [HTK.out.2, HTK.out.1]; exact N7, d7, HNX⟩
          case measure => simp [intOf] <;> omega
        · obtain ⟨b2, o2, A2, n2, c2, hA2, hbB2, hr2, hc2⟩ := h.at_ (i := k - 1) (by omega)
          injection hA2 with hA2
          injection hA2 with hA2 hA3
          subst hA2 hA3
          have i4 : decide (0 < k) = true := decide_eq_true (by omega)
          have i5 : IntKind.i64.wrap ((k : Int) - 1) = (k : Int) - 1 := IntWalk.i64_in _ (by omega)
          have i6 : ((k : Int) - 1).toNat = k - 1 := by omega
          have i7 : (0 : Int) ≤ (k : Int) - 1 := by omega
          have i8 : (k : Int) - 1 < (n : Int) := by omega
          have hkp : 0 < k := by omega
          generalize es.getD (k - 1) Dc.en0 = e1 at *
          obtain ⟨ix', sb', nm', ty', ac', mp', st', mx', lo', hi', df'⟩ := e1
          have BF := fun w => Before_any ⟨ix', sb', nm', ty', ac', mp', st', mx', lo', hi', df'⟩ ⟨ix, sb, nm, ty, ac, mp, st, mx, lo, hi, df⟩ A2 A1 n2 c2 n1 c1 w
          unfold enV at BF
          dsimp only at BF
          have q0 := hc2 0 _ rfl
          have q1 := hc2 1 _ rfl
          have q2 := hc2 2 _ rfl
          have q3 := hc2 3 _ rfl
          have q4 := hc2 4 _ rfl
          have q5 := hc2 5 _ rfl
          have q6 := hc2 6 _ rfl
          have q7 := hc2 7 _ rfl
          have q8 := hc2 8 _ rfl
          have q9 := hc2 9 _ rfl
          have q10 := hc2 10 _ rfl
          simp only [Nat.add_zero] at q0
          dsimp only at q0 q1 q2 q3 q4 q5 q6 q7 q8 q9 q10
          generalize hbf : Ent.befB ⟨ix', sb', nm', ty', ac', mp', st', mx', lo', hi', df'⟩ ⟨ix, sb, nm, ty, ac, mp, st, mx, lo, hi, df⟩ = bf at *
          replace BF := Lib.hid BF
          clear hc2 hr2 hrz hk0 hbf
          cases bf with
          | false =>
            rw [if_pos ⟨hkp, rfl⟩] at hst
            have HE := Lib.hid hst
            clear hst N HTK
            go_wp2_with fail
            refine (RG.out).mono ?_
            rintro e w1 ⟨rfl, b1⟩
            have K7 := Blk.made b1
            have K7e := K7.eleven
            have d1 := below_step b7 b1 (Nat.le_refl _)
            clear RG
            have g0 := cell_regrown (K7.cell 0)
            have g1 := cell_regrown (K7.cell 1)
            have g2 := cell_regrown (K7.cell 2)
            have g3 := cell_regrown (K7.cell 3)
            have g4 := cell_regrown (K7.cell 4)
            have g5 := cell_regrown (K7.cell 5)
            have g6 := cell_regrown (K7.cell 6)
            have g7 := cell_regrown (K7.cell 7)
            have g8 := cell_regrown (K7.cell 8)
            have g9 := cell_regrown (K7.cell 9)
            have g10 := cell_regrown (K7.cell 10)
            have p0 := cell_regrown ((d1.cell (p := ⟨b, o + (k - 1) * 11, none⟩) hbw).trans q0)
            have p1 := cell_regrown ((d1.cell (p := ⟨b, o + (k - 1) * 11 + 1, none⟩) hbw).trans q1)
            have p2 := cell_regrown ((d1.cell (p := ⟨b, o + (k - 1) * 11 + 2, none⟩) hbw).trans q2)
            have p3 := cell_regrown ((d1.cell (p := ⟨b, o + (k - 1) * 11 + 3, none⟩) hbw).trans q3)
            have p4 := cell_regrown ((d1.cell (p := ⟨b, o + (k - 1) * 11 + 4, none⟩) hbw).trans q4)
            have p5 := cell_regrown ((d1.cell (p := ⟨b, o + (k - 1) * 11 + 5, none⟩) hbw).trans q5)
            have p6 := cell_regrown ((d1.cell (p := ⟨b, o + (k - 1) * 11 + 6, none⟩) hbw).trans q6)
            have p7 := cell_regrown ((d1.cell (p := ⟨b, o + (k - 1) * 11 + 7, none⟩) hbw).trans q7)
            have p8 := cell_regrown ((d1.cell (p := ⟨b, o + (k - 1) * 11 + 8, none⟩) hbw).trans q8)
            have p9 := cell_regrown ((d1.cell (p := ⟨b, o + (k - 1) * 11 + 9, none⟩) hbw).trans q9)
            have p10 := cell_regrown ((d1.cell (p := ⟨b, o + (k - 1) * 11 + 10, none⟩) hbw).trans q10)
            go_wp2_with fail
            refine region_later (by kernel_rfl) ?_
            refine phase_later (by kernel_rfl) 3 (below_drew _) [0, 1, 2, 3, 4, 8, 5, 6, 7] rfl (by kernel_rfl) ?_
            simp only [picks, nth]
            repeat (go_big_quiet_step (fail))
            refine wpQuiet_nil ?_
            refine phase_op 9 2 rfl (by kernel_rfl) (by decide) ?_
            simp only [nth]
            go_wp2_with (go_at_call 51; refine (BF.out _).mono ?_; rintro e w5 ⟨rfl, b5⟩)
            have b6 : Below w1.heap.size w1 w5 := (below_drew w1).trans b5
            refine behind_later b6 ?_
            refine phase_later (by kernel_rfl) 0 (Below.refl _ _) [10, 11] rfl (by kernel_rfl) ?_
            simp only [picks, nth]
            repeat (go_big_quiet_step (fail))
            refine wpQuiet_nil ?_
            refine phase_end (by kernel_rfl) ?_
            go_wp2_with fail
            go_ret3
            exact new_no HE.out (by decide) rfl (below_step d1 b6 (Nat.le_refl _))
          | true =>
            rw [if_neg (by simp)] at hst
            have HNX := Lib.hid hst
            clear hst
            go_wp2_with fail
            refine (RG.out).mono ?_
            rintro e w1 ⟨rfl, b1⟩
            have K7 := Blk.made b1
            have K7e := K7.eleven
            have d1 := below_step b7 b1 (Nat.le_refl _)
            clear RG
            have g0 := cell_regrown (K7.cell 0)
            have g1 := cell_regrown (K7.cell 1)
            have g2 := cell_regrown (K7.cell 2)
            have g3 := cell_regrown (K7.cell 3)
            have g4 := cell_regrown (K7.cell 4)
            have g5 := cell_regrown (K7.cell 5)
            have g6 := cell_regrown (K7.cell 6)
            have g7 := cell_regrown (K7.cell 7)
            have g8 := cell_regrown (K7.cell 8)
            have g9 := cell_regrown (K7.cell 9)
            have g10 := cell_regrown (K7.cell 10)
            have p0 := cell_regrown ((d1.cell (p := ⟨b, o + (k - 1) * 11, none⟩) hbw).trans q0)
            have p1 := cell_regrown ((d1.cell (p := ⟨b, o + (k - 1) * 11 + 1, none⟩) hbw).trans q1)
            have p2 := cell_regrown ((d1.cell (p := ⟨b, o + (k - 1) * 11 + 2, none⟩) hbw).trans q2)
            have p3 := cell_regrown ((d1.cell (p := ⟨b, o + (k - 1) * 11 + 3, none⟩) hbw).trans q3)
            have p4 := cell_regrown ((d1.cell (p := ⟨b, o + (k - 1) * 11 + 4, none⟩) hbw).trans q4)
            have p5 := cell_regrown ((d1.cell (p := ⟨b, o + (k - 1) * 11 + 5, none⟩) hbw).trans q5)
            have p6 := cell_regrown ((d1.cell (p := ⟨b, o + (k - 1) * 11 + 6, none⟩) hbw).trans q6)
            have p7 := cell_regrown ((d1.cell (p := ⟨b, o + (k - 1) * 11 + 7, none⟩) hbw).trans q7)
            have p8 := cell_regrown ((d1.cell (p := ⟨b, o + (k - 1) * 11 + 8, none⟩) hbw).trans q8)
            have p9 := cell_regrown ((d1.cell (p := ⟨b, o + (k - 1) * 11 + 9, none⟩) hbw).trans q9)
            have p10 := cell_regrown ((d1.cell (p := ⟨b, o + (k - 1) * 11 + 10, none⟩) hbw).trans q10)
            go_wp2_with fail
            refine region_later (by kernel_rfl) ?_
            refine phase_later (by kernel_rfl) 3 (below_drew _) [0, 1, 2, 3, 4, 8, 5, 6, 7] rfl (by kernel_rfl) ?_
            simp only [picks, nth]
            repeat (go_big_quiet_step (fail))
            refine wpQuiet_nil ?_
            refine phase_op 9 2 rfl (by kernel_rfl) (by decide) ?_
            simp only [nth]
            go_wp2_with (go_at_call 51; refine (BF.out _).mono ?_; rintro e w5 ⟨rfl, b5⟩)
            have b6 : Below w1.heap.size w1 w5 := (below_drew w1).trans b5
            refine behind_later b6 ?_
            refine phase_later (by kernel_rfl) 0 (Below.refl _ _) [10, 11] rfl (by kernel_rfl) ?_
            simp only [picks, nth]
            repeat (go_big_quiet_step (fail))
            refine wpQuiet_nil ?_
            refine phase_end (by kernel_rfl) ?_
            have dc := below_step d1 b6 (Nat.le_refl _)
            replace N := ((N.below (alloc_one wr (.cells #[.int .i64 ix, .int .i64 sb, .string (T nm), .int .i64 ty, .int .i64 ac, .bool mp, .bool st, .int .i64 mx, .int .i64 lo, .int .i64 hi, .slice A1 n1 c1] 31))).below b1).below b6
            replace K7 := K7.later b6
            clear K7e d1 BF g0 g1 g2 g3 g4 g5 g6 g7 g8 g9 g10 p0 p1 p2 p3 p4 p5 p6 p7 p8 p9 p10 b6 b5 b1 i4 i5 i6 i7 i8 q0 q1 q2 q3 q4 q5 q6 q7 q8 q9 q10
            generalize w5 = wc at *
            -- the entry
            have HELD := held_any ⟨ix, sb, nm, ty, ac, mp, st, mx, lo, hi, df⟩ wc.drew (hr0.below (dc.drew.mono (Nat.le_trans hB' hB))) hdf (Nat.le_trans (Nat.le_trans hB' hB) dc.drew.size)
            unfold enV at HELD
            dsimp only at HELD
            replace HELD := Lib.hid HELD
            have t0 := cell_mv (G := Gq) (N.blk.cell 0) hGg
            have k0 := cell_mv (G := Gq) (K7.cell 0) hG7
            have k1 := cell_mv (G := Gq) (K7.cell 1) hG7
            have k2 := cell_mv (G := Gq) (K7.cell 2) hG7
            have k3 := cell_mv (G := Gq) (K7.cell 3) hG7
            have k4 := cell_mv (G := Gq) (K7.cell 4) hG7
            have k5 := cell_mv (G := Gq) (K7.cell 5) hG7
            have k6 := cell_mv (G := Gq) (K7.cell 6) hG7
            have k7 := cell_mv (G := Gq) (K7.cell 7) hG7
            have k8 := cell_mv (G := Gq) (K7.cell 8) hG7
            have k9 := cell_mv (G := Gq) (K7.cell 9) hG7
            have k10 := cell_mv (G := Gq) (K7.cell 10) hG7
            go_wp2_with fail
            refine region_mv 11 Gq (by kernel_rfl) ?_
            refine phase_mv (by kernel_rfl) 6 (Mv.refl _ _).drew [0, 1, 5, 2, 3, 4] rfl (by kernel_rfl) ?_
            simp only [picks, nth]
            repeat (go_big_quiet_step (fail))
            refine wpQuiet_nil ?_
            refine phase_opL 6 5 rfl (by kernel_rfl) (by decide) ?_
            simp only [nth]
            go_wp2_with fail
            refine (HELD.out).mono ?_
            rintro e w3 ⟨A3, c3, rfl, o3, b3⟩
            have b3' : Below wc.heap.size wc w3 := (below_drew wc).trans b3
            go_wp2_with fail
            refine behind_mv (Mv.of_new b3' _) ?_
            refine phase_opL 7 4 rfl (by kernel_rfl) (by decide) ?_
            simp only [nth]
            go_wp2_with fail
            have b4 := alloc_one w3 (.cells #[.int .i64 ix, .int .i64 sb, .string (T nm), .int .i64 ty, .int .i64 ac, .bool mp, .bool st, .int .i64 mx, .int .i64 lo, .int .i64 hi, .slice A3 n1 c3] 31)
            have D4 := below_step b3' b4 (Nat.le_refl _)
            refine behind_mv (Mv.of_new D4 _) ?_
            have N4 := N.below D4
            have hnew := RV.new w3 31 (size := 11) (cs := enL ⟨ix, sb, nm, ty, ac, mp, st, mx, lo, hi, df⟩ A3 n1 c3) rfl
            have hf4 : EnB (w3.alloc (.cells #[.int .i64 ix, .int .i64 sb, .string (T nm), .int .i64 ty, .int .i64 ac, .bool mp, .bool st, .int .i64 mx, .int .i64 lo, .int .i64 hi, .slice A3 n1 c3] 31)) w.heap.size ⟨ix, sb, nm, ty, ac, mp, st, mx, lo, hi, df⟩ (enL ⟨ix, sb, nm, ty, ac, mp, st, mx, lo, hi, df⟩ A3 n1 c3) := ⟨A3, n1, c3, rfl, (o3.more dc.drew.size).below b4⟩
            have D40 := below_step dc D4 (Nat.le_refl _)
            refine phase_opL 8 3 rfl (by kernel_rfl) (by decide) ?_
            simp only [nth]
            go_wp2_with (at_builtin; refine wpList_apps2 eten (fun w1 => EnB w1 w.heap.size) rfl (.tmp 45) (.tmp 48) rfl rfl rfl w.heap.size N4.row ⟨ix, sb, nm, ty, ac, mp, st, mx, lo, hi, df⟩ hnew hf4 (en_oneCell _ _ _ _) (by omega) (by omega) D40.size (fun w1 A1 n1 c1 xs hv hg f cs hf => hf.beside hv (by decide) hg) ?_; intro A5 c5 w5 o5 b5 g5 _)
            have M5 : Mv Gq wc w5 := (Mv.of_new D4 _).trans (Mv.of_grown g5) fun b hb e => hOwn b e
            refine behind_mv M5 ?_
            refine phase_opL 9 2 rfl (by kernel_rfl) (by decide) ?_
            simp only [nth]
            go_wp2_with fail
            refine behind_mv M5 ?_
            refine phase_opL 10 1 rfl (by kernel_rfl) (by decide) ?_
            simp only [nth]
            go_wp2_with fail
            refine behind_mv M5 ?_
            have F5 := (N.blk.mv M5 hGg).two
            have K75 := (K7.mv M5 hG7).far (p := ⟨w.heap.size + 1, 0, none⟩) (by dsimp only; omega) (.slice A5 (k + 1) c5)
            refine phase_last 0 rfl (by kernel_rfl) (by decide) (by kernel_rfl) ?_
            simp only [nth]
            go_wp2_with fail
            refine behind_last ?_
            have N6 := N4.addl (by decide) (by decide) (by decide) o5 g5
            have d6 : Below w.heap.size w (w5.setCell ⟨w.heap.size + 1, 0, none⟩ (.slice A5 (k + 1) c5)) := (D40.trans b5).setCell (p := ⟨w.heap.size + 1, 0, none⟩) (by dsimp only; omega) _
            have hA5 : ∃ la5 : Addr, A5 = some la5 := by
              obtain ⟨zs, z1, _⟩ := o5
              obtain ⟨q, e, _, _⟩ := z1.head (by omega)
              exact ⟨_, e⟩
            have hOwn5 : ∀ b, some b = (Value.slice vA k vc).ownBlock → Gq b := hOwnV
            obtain ⟨la5, rfl⟩ := hA5
            generalize hwd : w5.setCell ⟨w.heap.size + 1, 0, none⟩ (.slice (some la5) (k + 1) c5) = wd at *
            clear hwd N4 N HELD t0 k0 k1 k2 k3 k4 k5 k6 k7 k8 k9 k10 F5 o5 g5 M5 D4 D40 hf4 hnew b4 b3 b3' o3 K7 hOwn
            have K7 := K75
            clear K75
            -- its value
            have OWN := Lib.hid (down_any wd.drew (hr0.below (d6.drew.mono (Nat.le_trans hB' hB))) hdf (Nat.le_trans (Nat.le_trans hB' hB) d6.drew.size))
            have t1 := cell_mv (G := Gq) (N6.blk.cell 1) hGg
            have k10 := cell_mv (G := Gq) (K7.cell 10) hG7
            go_wp2_with fail
            refine region_mv 12 Gq (by kernel_rfl) ?_
            refine phase_mv (by kernel_rfl) 6 (Mv.refl _ _).drew [0, 1, 5, 2, 6, 3, 4] rfl (by kernel_rfl) ?_
            simp only [picks, nth]
            repeat (go_big_quiet_step (fail))
            refine wpQuiet_nil ?_
            refine phase_opL 7 5 rfl (by kernel_rfl) (by decide) ?_
            simp only [nth]
            go_wp2_with fail
            refine (OWN.out).mono ?_
            rintro e w3 ⟨A3, c3, rfl, o3, b3⟩
            have b3' : Below wd.heap.size wd w3 := (below_drew wd).trans b3
            go_wp2_with fail
            refine behind_mv (Mv.of_new b3' _) ?_
            refine phase_opL 8 4 rfl (by kernel_rfl) (by decide) ?_
            simp only [nth]
            go_wp2_with fail
            have b4 := alloc_one w3 (.cells #[.slice A3 n1 c3] 29)
            have D4 := below_step b3' b4 (Nat.le_refl _)
            refine behind_mv (Mv.of_new D4 _) ?_
            have N4 := N6.below D4
            have hnew := RV.new w3 29 (size := 1) (cs := [.slice A3 n1 c3]) rfl
            have hf4 : ByB (w3.alloc (.cells #[.slice A3 n1 c3] 29)) w.heap.size df [.slice A3 n1 c3] := ⟨A3, n1, c3, rfl, (o3.more d6.drew.size).below b4⟩
            have D40 := below_step d6 D4 (Nat.le_refl _)
            refine phase_opL 9 3 rfl (by kernel_rfl) (by decide) ?_
            simp only [nth]
            go_wp2_with (at_builtin; refine wpList_apps2 etbs (fun w1 => ByB w1 w.heap.size) rfl (.tmp 56) (.tmp 60) rfl rfl rfl w.heap.size N4.vrow df hnew hf4 (fun u hu => by simp only [List.mem_cons, List.not_mem_nil, or_false] at hu; rw [hu]; rfl) (by omega) (by omega) D40.size (fun w1 A1 n1 c1 xs hv hg f cs hf => hf.beside hv (by decide) hg) ?_; intro A6 c6 w6 o6 b6 g6 _)
            have M5 : Mv Gq wd w6 := (Mv.of_new D4 _).trans (Mv.of_grown g6) fun b hb e => hOwn5 b e
            refine behind_mv M5 ?_
            refine phase_opL 10 2 rfl (by kernel_rfl) (by decide) ?_
            simp only [nth]
            go_wp2_with fail
            refine behind_mv M5 ?_
            refine phase_opL 11 1 rfl (by kernel_rfl) (by decide) ?_
            simp only [nth]
            go_wp2_with fail
            refine behind_mv M5 ?_
            have F5 := (N6.blk.mv M5 hGg).two
            refine phase_last 0 rfl (by kernel_rfl) (by decide) (by kernel_rfl) ?_
            simp only [nth]
            go_wp2_with fail
            refine behind_last ?_
            have N7 := N4.addv (by decide) (by decide) (by decide) o6 g6
            have d7 : Below w.heap.size w (w6.setCell ⟨w.heap.size + 1, 1, none⟩ (.slice A6 (k + 1) c6)) := (D40.trans b6).setCell (p := ⟨w.heap.size + 1, 1, none⟩) (by dsimp only; omega) _
            clear t1 k10 F5 N4 N6 OWN K7
            go_wp2_with fail
            go_roundw
            case rel => exact ⟨k + 1, la5, c5, A6, c6, by omega, by go_num, by rw [HTK.out.2, HTK.out.1]; exact N7, d7, HNX⟩
            case measure => simp [intOf] <;> omega
      · rw [if_pos hrz] at hst
        have HE := Lib.hid hst
        generalize Ent.rightS ⟨ix, sb, nm, ty, ac, mp, st, mx, lo, hi, df⟩ = z at *
        have ez : (z != 0) = true := by simpa using hrz
        have HZ := Lib.hid hrz
        clear hst hrz
        go_wp2_with fail
        refine (RG.out).mono ?_
        rintro e w1 ⟨rfl, b1⟩
        go_wp2_with fail
        go_ret3
        exact new_no HE.out HZ.out rfl (below_step b7 b1 (Nat.le_refl _))
    · obtain rfl : k = n := by omega
      have hz : Dc.newS es = (0, 0) := by rw [HQ.out, Nat.sub_self]; rfl
      have hok := Dc.new_ok (l := es) (by rw [hz])
      have htk : es.take k = es := List.take_of_length_le (by rw [HL.out]; omega)
      rw [htk] at N
      have HZ := Lib.hid hz; have HOK := Lib.hid hok
      clear hz hok htk
      obtain ⟨gv, zs, ys, hD⟩ := N.made (by decide) (by decide) (by decide) HL.out (by rw [List.length_map]; exact HL.out) HOK.out.2.1 (by omega) HOK.out.2.2
      clear N
      go_wp2_with fail
      go_ret3
      exact .inl ⟨by rw [HZ.out], bb, _, gv, lc, vc, la, vA, zs, ys, rfl, hD⟩
end Go.Proofs.YtmolmpgampmolaaGreat
/-
  Walk: Print of layer 17.
  Conditions: none.
-/
namespace Go.Proofs.YtmolmpgampmolaaGreat.Ed
set_option linter.unusedVariables false
set_option linter.unusedSimpArgs false
open Ent
theorem range_len (e : En) : (rangeS e).length ≤ 48 := by
  unfold rangeS
  have n1 := numT_len e.low
  have n2 := numT_len e.high
  split
  · simp only [List.length_append, List.length_cons, List.length_nil]; omega
  · simp
theorem line_len (e : En) : (lineS e).1.length ≤ 900 := by
  by_cases h : rightS e = 0
  · rw [line_ok h]
    obtain ⟨h1, h2, h3, h4, hn, _⟩ := right_more h
    have n1 := numT_len e.sub
    have n2 := numT_len e.max
    have n3 := kd_len e.type
    have n4 := word_len e.access
    have n5 := range_len e
    have n6 := show_len (t := e.type) (b := e.dflt)
    have n7 : (if numB e.type = true then ([] : List UInt8) else [91] ++ Ty.numT e.max ++ [93]).length ≤ 23 := by
      split
      · simp
      · simp only [List.length_append, List.length_cons, List.length_nil]; omega
    have n8 : (if e.map = true then ([32, 109, 97, 112] : List UInt8) else []).length ≤ 4 := by split <;> simp
    have n9 : (if e.store = true then ([32, 115, 116, 111, 114, 101] : List UInt8) else []).length ≤ 6 := by split <;> simp
    have n10 : (Oct.hexS [UInt8.ofNat (e.index.toNat / 256), UInt8.ofNat (e.index.toNat % 256)]).length = 4 := by rw [Oct.hexS_length]; rfl
    show (lineT e).length ≤ 900
    unfold lineT
    rw [List.length_append, List.length_append, List.length_append, List.length_append, List.length_append, List.length_append, List.length_append, List.length_append, List.length_append, List.length_append, List.length_append, List.length_append, List.length_append, List.length_append, List.length_append]
    simp only [List.length_append, List.length_cons, List.length_nil]
    omega
  · rw [line_bad h]; simp
theorem all_step {l : List En} {k : Nat} (h : k < l.length) : allT (l.take (k + 1)) = allT (l.take k) ++ ((lineS (l.getD k Dc.en0)).1 ++ [10]) := by
  have : l.getD k Dc.en0 = l[k] := by simp [List.getD, List.getElem?_eq_getElem h]
  rw [this, ← List.take_append_getElem h]
  unfold allT
  rw [List.flatMap_append]
  simp
theorem all_len : ∀ l : List En, (allT l).length ≤ 901 * l.length
  | [] => by simp [allT]
  | e :: l => by
    have h1 := all_len l
    have h2 := line_len e
    have : allT (e :: l) = (lineS e).1 ++ [10] ++ allT l := by simp [allT]
    rw [this]
    simp only [List.length_append, List.length_cons, List.length_nil]
    omega
theorem new_few {l : List En} (h : (Dc.newS l).1 = 0) : l.length ≤ 96 := by
  unfold Dc.newS at h
  split at h
  · cases h
  · omega
end Go.Proofs.YtmolmpgampmolaaGreat.Ed
namespace Go.Proofs.YtmolmpgampmolaaGreat
set_option linter.unusedVariables false
set_option linter.unusedSimpArgs false
open Go.RowKit Go.Sort
/-- What Print hands back. -/
def PrtPost (p : List UInt8 × Int × Nat) (w : World) (e : Ending) (w' : World) : Prop := e = .returned (.tuple #[.string (T p.1), .int .i64 p.2.1, .int .i64 (p.2.2 : Int)]) ∧ Below w.heap.size w w'
theorem prt_mk {p : List UInt8 × Int × Nat} {w w' : World} {s : List UInt8} {x y : Int} {q : Nat} (h : p = (s, x, q)) (hy : y = (q : Int)) (hb : Below w.heap.size w w') : PrtPost p w (.returned (.tuple #[.string (T s), .int .i64 x, .int .i64 y])) w' := by
  subst h hy
  exact ⟨rfl, hb⟩
set_option maxRecDepth 100000 in
set_option maxHeartbeats 8000000 in
theorem Print_any {A : Option Addr} {n c B B' : Nat} {es : List Ent.En} (w : World) (h : REn w B B' A n c es) (hB : B ≤ w.heap.size) (hB' : B' ≤ B) (hd : ∀ e ∈ es, e.name.length ≤ 1000000 ∧ e.dflt.length ≤ 1000000) : Calls Tryz.prog 12 #[.slice A n c] w (PrtPost (Ed.printS es) w) := by
  have NW := dNew_any w h hB hB' hd
  have hl := h.len
  have hpr : Ed.printS es = if (Dc.newS es).1 ≠ 0 then ([], (Dc.newS es).1, (Dc.newS es).2) else if 8192 < (Ed.allT es).length then ([], 3, 0) else (Ed.allT es, 0, 0) := rfl
  have hfew := Ed.new_few (l := es)
  unfold NewPost at NW
  generalize Dc.newS es = nw at *
  obtain ⟨ne, np⟩ := nw
  dsimp only at NW hpr hfew
  by_cases hne : ne = 0
  case neg =>
    rw [if_pos hne] at hpr
    have HP := Lib.hid hpr
    have e1 : (ne != 0) = true := by simpa using hne
    have HN := Lib.hid hne
    replace NW := Lib.hid NW
    clear hpr hne hfew h hl hd
    go_enter Tryz.func12, Tryz.ntmps12
    go_wp2_with fail
    refine (NW.out).mono ?_
    rintro e w1 (⟨h0, _⟩ | ⟨_, b1, rfl⟩)
    · exact absurd h0 HN.out
    go_wp2_with fail
    go_ret3
    exact prt_mk HP.out rfl b1
  subst hne
  rw [if_neg (by simp)] at hpr
  have HP := Lib.hid hpr
  have h96 := hfew rfl
  have hn96 : n ≤ 96 := by omega
  have HH := Lib.hid h
  have HD := Lib.hid hd
  have HL := Lib.hid hl
  replace NW := Lib.hid NW
  clear hpr hfew h hl hd h96
  go_enter Tryz.func12, Tryz.ntmps12
  go_wp2_with fail
  refine (NW.out).mono ?_
  rintro e w1 (⟨_, b1, g, gv, lc, vc, la, vA, xs, vs, rfl, _⟩ | ⟨h0, _⟩)
  case inr => exact absurd rfl h0
  clear NW
  go_wp2_with fail
  go_loopw [8, 25] (fun v i wr => ∃ k : Nat, k ≤ n ∧ v = .string (T (Ed.allT (es.take k))) ∧ i = .int .i64 k ∧ Below w.heap.size w wr) (fun _ i _ => n - (intOf i).toNat)
  case atStart => exact ⟨0, Nat.zero_le _, rfl, rfl, b1⟩
  case round =>
    obtain ⟨k, hk, rfl, rfl, bb⟩ := hrel
    by_cases hkn : k < n
    · obtain ⟨b, o, A1, n1, c1, rfl, hbB, hr0, hc⟩ := HH.out.at_ hkn
      have hstep := Ed.all_step (l := es) (k := k) (by rw [HL.out]; exact hkn)
      have hmem : es.getD k Dc.en0 ∈ es := by
        have : es.getD k Dc.en0 = es[k]'(by rw [HL.out]; exact hkn) := by simp [List.getD, List.getElem?_eq_getElem (show k < es.length by rw [HL.out]; exact hkn)]
        rw [this]; exact List.getElem_mem _
      have hnm := (HD.out _ hmem).1
      have hll := Ed.line_len (es.getD k Dc.en0)
      have hal := Ed.all_len (es.take k)
      have htk : (es.take k).length ≤ k := by rw [List.length_take]; omega
      generalize es.getD k Dc.en0 = e at *
      have hbw : b < w.heap.size := by omega
      have hB0 : B' ≤ w.heap.size := by omega
      have LN := Line_any (A := A1) (n := n1) (c := c1) e (wr.alloc (.cells #[.int .i64 e.index, .int .i64 e.sub, .string (T e.name), .int .i64 e.type, .int .i64 e.access, .bool e.map, .bool e.store, .int .i64 e.max, .int .i64 e.low, .int .i64 e.high, .slice A1 n1 c1] 31)) (hr0.below ((bb.trans ((alloc_one wr _).mono bb.size)).mono hB0)) (by have := bb.size; simp only [World.size_alloc]; omega) hnm
      unfold enV ShowPost at LN
      have a0 := (bb.cell (p := ⟨b, o + k * 11 + 0, none⟩) hbw).trans (hc 0 _ rfl)
      have a1 := (bb.cell (p := ⟨b, o + k * 11 + 1, none⟩) hbw).trans (hc 1 _ rfl)
      have a2 := (bb.cell (p := ⟨b, o + k * 11 + 2, none⟩) hbw).trans (hc 2 _ rfl)
      have a3 := (bb.cell (p := ⟨b, o + k * 11 + 3, none⟩) hbw).trans (hc 3 _ rfl)
      have a4 := (bb.cell (p := ⟨b, o + k * 11 + 4, none⟩) hbw).trans (hc 4 _ rfl)
      have a5 := (bb.cell (p := ⟨b, o + k * 11 + 5, none⟩) hbw).trans (hc 5 _ rfl)
      have a6 := (bb.cell (p := ⟨b, o + k * 11 + 6, none⟩) hbw).trans (hc 6 _ rfl)
      have a7 := (bb.cell (p := ⟨b, o + k * 11 + 7, none⟩) hbw).trans (hc 7 _ rfl)
      have a8 := (bb.cell (p := ⟨b, o + k * 11 + 8, none⟩) hbw).trans (hc 8 _ rfl)
      have a9 := (bb.cell (p := ⟨b, o + k * 11 + 9, none⟩) hbw).trans (hc 9 _ rfl)
      have a10 := (bb.cell (p := ⟨b, o + k * 11 + 10, none⟩) hbw).trans (hc 10 _ rfl)
      simp only [Nat.add_zero] at a0
      have b7 := bb.alloc bb.size (.cells #[.int .i64 e.index, .int .i64 e.sub, .string (T e.name), .int .i64 e.type, .int .i64 e.access, .bool e.map, .bool e.store, .int .i64 e.max, .int .i64 e.low, .int .i64 e.high, .slice A1 n1 c1] 31)
      have K7 := (Blk.new wr 31 #[.int .i64 e.index, .int .i64 e.sub, .string (T e.name), .int .i64 e.type, .int .i64 e.access, .bool e.map, .bool e.store, .int .i64 e.max, .int .i64 e.low, .int .i64 e.high, .slice A1 n1 c1]).eleven
      generalize Ed.lineS e = ls at *
      obtain ⟨L, z⟩ := ls
      dsimp only at LN hstep hll
      replace LN := Lib.hid LN
      have i0 : (0 : Int) ≤ (k : Int) := by omega
      have i1 : (k : Int) < (n : Int) := by omega
      obtain ⟨u1, hu1, nu1, s1⟩ := add_ex L [10] 901 (by simp only [List.length_cons, List.length_nil]; omega) (by decide)
      obtain ⟨u2, hu2, nu2, s2⟩ := add_ex (Ed.allT (es.take k)) u1 100000 (by omega) (by decide)
      replace s1 : ∀ w, (Op.stringOp .add (T L) (⟨#[10]⟩ : ByteArray)).run Tryz.prog w = .ok (.string (T u1)) w := s1
      have HU : Hid (u2 = Ed.allT (es.take (k + 1))) := Lib.hid (by rw [hstep, hu2, hu1])
      clear hc hr0 hstep hu1 hu2 nu1 nu2 hll hal htk hnm hmem
      go_wp2_with fail
      refine (LN.out).mono ?_
      rintro e w2 ⟨rfl, b2⟩
      have d2 := below_step b7 b2 (Nat.le_refl _)
      clear LN K7 a0 a1 a2 a3 a4 a5 a6 a7 a8 a9 a10
      go_wp2_with fail
      go_roundw
      case rel => exact ⟨k + 1, by omega, by rw [HU.out], by go_num, d2⟩
      case measure => simp [intOf] <;> omega
    · obtain rfl : k = n := by omega
      have htk : es.take k = es := by rw [← HL.out]; exact List.take_length
      rw [htk]
      have hT := T_size (Ed.allT es)
      have i1 : ¬ (k : Int) < (k : Int) := by omega
      clear htk hkn
      by_cases hbig : 8192 < (Ed.allT es).length
      · have HE : Hid (Ed.printS es = ([], 3, 0)) := Lib.hid (by rw [HP.out, if_pos hbig])
        go_wp2_with fail
        go_ret3
        exact prt_mk (s := []) HE.out rfl bb
      · have HE : Hid (Ed.printS es = (Ed.allT es, 0, 0)) := Lib.hid (by rw [HP.out, if_neg hbig])
        have hbig2 : (Ed.allT es).length ≤ 8192 := by omega
        clear hbig
        go_wp2_with fail
        go_ret3
        exact prt_mk HE.out rfl bb
end Go.Proofs.YtmolmpgampmolaaGreat
