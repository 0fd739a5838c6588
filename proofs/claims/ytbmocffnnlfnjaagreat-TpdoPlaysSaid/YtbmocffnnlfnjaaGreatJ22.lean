/-
  Texts joined: MapRCheck, DicRPeek, MapRGath, TpdRef.
  Conditions: none.
-/
import Derived.Test.YtbmocffnnlfnjaaGreatJ04
import Derived.Test.YtbmocffnnlfnjaaGreatJ10
import Derived.Test.YtbmocffnnlfnjaaGreatJ11
import Derived.Test.YtbmocffnnlfnjaaGreatJ14
import Derived.Test.YtbmocffnnlfnjaaGreatJ16
import Derived.Test.YtbmocffnnlfnjaaGreatJ21
/-
  Walks: the reference's Check of layer 30.
  Conditions: none.
-/
namespace Go.Proofs.YtbmocffnnlfnjaaGreat
set_option linter.unusedVariables false
set_option linter.unusedSimpArgs false
open Go.RowKit
set_option maxRecDepth 100000 in
set_option maxHeartbeats 4000000 in
theorem RMCheck_any {F : Nat → Prop} {w : World} {g gv lc vc : Nat} {lA vA : Option Addr} {xs vs : List Value} {D : Dc.Dic} {A : Option Addr} {n c B : Nat} {ws : List Nat} (inn : Bool) (h : DRt 72 w F g gv lA lc vA vc xs vs D) (hw : RW w B A n c ws) (hwl : ∀ x ∈ ws, x < 4294967296) (hB : B ≤ w.heap.size) : Calls Tryz.prog 43 #[.pointer (some ⟨g, 0, none⟩), .slice A n c, .bool inn] w fun e w' => e = .returned (.int .u32 (Mp.checkS D.l inn ws)) ∧ Below w.heap.size w w' := by
  have hl := hw.len
  have hn9 := hw.lt
  obtain ⟨hnc, hc9⟩ : n ≤ c ∧ c ≤ 9223372036854775807 := ⟨RV.le hw, RV.cap hw⟩
  have hs : Mp.checkS D.l inn ws = if 8 < n then 100925506 else Mp.checkF D.l inn ws n 0 := by unfold Mp.checkS; rw [hl]
  rw [hs]
  by_cases h8 : 8 < n
  · simp only [h8, if_true]
    go_enter Tryz.func43, Tryz.ntmps43
    go_wp2_with fail
    go_ret
    exact ⟨rfl, Below.refl _ _⟩
  · simp only [h8, if_false]
    clear hs
    generalize hg : Mp.checkF D.l inn ws n 0 = r
    have HG := Lib.hid hg
    clear hg
    go_enter Tryz.func43, Tryz.ntmps43
    go_wp2_with fail
    go_loopw [7] (fun i wr => ∃ k : Nat, k ≤ n ∧ i = .int .i64 k ∧ Below w.heap.size w wr ∧ Mp.checkF D.l inn ws (n - k) k = r) (fun i _ => n - (intOf i).toNat)
    case atStart => exact ⟨0, by omega, rfl, Below.refl _ _, HG.out⟩
    case round =>
      obtain ⟨k, hk, rfl, hbel, hrr⟩ := hrel
      by_cases hlt : k < n
      · obtain ⟨b, o, rfl, hbB, q0⟩ := (hw.below (hbel.mono hB)).at_ hlt
        have hwT := (hw.below (hbel.mono hB)).take (k := k + 1) (by omega)
        have SP := RMSplit_any (ws.getD k 0) (word_lt hwl k) wr
        have FD := rFind_any (Mp.ix (ws.getD k 0)) (Mp.sb (ws.getD k 0)) (h.below hbel)
        have SZ := fun (w1 : World) (hb : Below wr.heap.size wr w1) => RMSize_any w1 (hwT.below (hb.mono (Nat.le_trans hB hbel.size))) (by omega) (fun x hx => hwl x (List.mem_of_mem_take hx))
        rw [checkF_step hlt] at hrr
        unfold Dc.rfind at FD
        generalize ws.getD k 0 = x at *
        generalize Mp.sizeS (ws.take (k + 1)) = sz at *
        clear hwT
        cases hf : Dc.findS D.l (Mp.ix x) (Mp.sb x) with
        | none =>
          unfold Mp.oneS at hrr
          rw [hf] at FD hrr
          dsimp only at FD hrr
          cases hi : Dc.inB D.l (Mp.ix x)
          all_goals
            rw [hi] at FD hrr
            simp at hrr
            subst hrr
            simp only [if_true, Bool.false_eq_true, if_false] at FD
            clear hi hf
            generalize (Mp.ix x : Int) = ixx at FD SP
            generalize (Mp.sb x : Int) = sbx at FD SP
            replace FD := Lib.hid FD; replace SP := Lib.hid SP; replace SZ := Lib.hid SZ
            go_wp2_with fail
            refine (SP.out).mono ?_
            rintro e w1 ⟨rfl, rfl⟩
            go_wp2_with fail
            refine (FD.out).mono ?_
            rintro e w1 ⟨rfl, rfl⟩
            go_wp2_with fail
            go_ret
            exact ⟨rfl, hbel⟩
        | some kk =>
          have ho : Mp.oneS D.l inn x = if (D.l.getD kk Dc.en0).map = false ∨ ((Ty.kd (D.l.getD kk Dc.en0).type).bits : Int) ≠ (Mp.bt x : Int) ∨ (if inn = true then Ent.writS (D.l.getD kk Dc.en0) else Ent.readS (D.l.getD kk Dc.en0)) ≠ 0 then 100925505 else 0 := by unfold Mp.oneS; rw [hf]
          rw [hf] at FD
          dsimp only at FD
          generalize Mp.oneS D.l inn x = oo at *
          have hkk := (Dc.find_some hf).2.1
          clear hf
          obtain ⟨b', oo, A1, n1, c1, hA, hbB', hr', hc⟩ := (h.below hbel).entry hkk
          have hB2 := h.below hbel
          obtain ⟨t0, t1⟩ := hB2.two
          have hlc := hB2.lcap
          subst hA
          have e0 := hc 0 _ rfl
          have e1 := hc 1 _ rfl
          have e2 := hc 2 _ rfl
          have e3 := hc 3 _ rfl
          have e4 := hc 4 _ rfl
          have e5 := hc 5 _ rfl
          have e6 := hc 6 _ rfl
          have e7 := hc 7 _ rfl
          have e8 := hc 8 _ rfl
          have e9 := hc 9 _ rfl
          have e10 := hc 10 _ rfl
          simp only [Nat.add_zero] at e0
          clear hc hr' hB2
          generalize D.l.getD kk Dc.en0 = en at *
          obtain ⟨ix, sb, nm, ty, ac, mp, st, mx, lo, hi, df⟩ := en
          dsimp only at e0 e1 e2 e3 e4 e5 e6 e7 e8 e9 e10 ho
          have TB := Lib.hid (fun w => RTBits_any ty w)
          have OR := fun A n c w => RReadable_any ⟨ix, sb, nm, ty, ac, mp, st, mx, lo, hi, df⟩ A n c w
          have OW := fun A n c w => RWritable_any ⟨ix, sb, nm, ty, ac, mp, st, mx, lo, hi, df⟩ A n c w
          unfold enV at OR OW
          dsimp only at OR OW
          generalize Ent.readS (⟨ix, sb, nm, ty, ac, mp, st, mx, lo, hi, df⟩ : Ent.En) = rr at *
          generalize Ent.writS (⟨ix, sb, nm, ty, ac, mp, st, mx, lo, hi, df⟩ : Ent.En) = rw_ at *
          generalize ((Ty.kd ty).bits : Int) = kb at *
          generalize (Mp.bt x : Int) = vb at *
          generalize (Mp.ix x : Int) = ixx at FD SP
          generalize (Mp.sb x : Int) = sbx at FD SP
          generalize D.l.length = m at *
          replace OR := Lib.hid OR; replace OW := Lib.hid OW; replace FD := Lib.hid FD; replace SP := Lib.hid SP; replace SZ := Lib.hid SZ
          have K0 := Blk.new wr 63 #[.int .i64 ix, .int .i64 sb, .string (T nm), .int .i64 ty, .int .i64 ac, .bool mp, .bool st, .int .i64 mx, .int .i64 lo, .int .i64 hi, .slice A1 n1 c1]
          have T0 := K0.eleven
          go_wp2_with fail
          refine (SP.out).mono ?_
          rintro e w1 ⟨rfl, rfl⟩
          go_wp2_with fail
          refine (FD.out).mono ?_
          rintro e w1 ⟨rfl, rfl⟩
          cases mp
          · simp at ho
            subst ho
            simp at hrr
            subst hrr
            go_wp2_with fail
            go_ret
            exact ⟨rfl, below_step hbel (alloc_one _ _) (Nat.le_refl _)⟩
          · by_cases hb : kb = vb
            · subst hb
              cases inn
              · by_cases hr : rr = 0
                · subst hr
                  simp at ho
                  subst ho
                  by_cases h64 : 64 < sz
                  · simp [h64] at hrr
                    subst hrr
                    go_wp2_with fail
                    refine (TB.out _).mono ?_
                    rintro e w2 ⟨rfl, rfl⟩
                    go_wp2_with fail
                    refine (OR.out _ _ _ _).mono ?_
                    rintro e w3 ⟨rfl, b3⟩
                    have d3 := below_step (alloc_one wr _) b3 (Nat.le_refl _)
                    go_wp2_with fail
                    refine (SZ.out _ d3).mono ?_
                    rintro e w4 ⟨rfl, rfl⟩
                    go_wp2_with fail
                    go_ret
                    exact ⟨rfl, below_step hbel d3 (Nat.le_refl _)⟩
                  · simp [h64] at hrr
                    have HRR := Lib.hid hrr
                    clear hrr
                    go_wp2_with fail
                    refine (TB.out _).mono ?_
                    rintro e w2 ⟨rfl, rfl⟩
                    go_wp2_with fail
                    refine (OR.out _ _ _ _).mono ?_
                    rintro e w3 ⟨rfl, b3⟩
                    have d3 := below_step (alloc_one wr _) b3 (Nat.le_refl _)
                    go_wp2_with fail
                    refine (SZ.out _ d3).mono ?_
                    rintro e w4 ⟨rfl, rfl⟩
                    go_wp2_with fail
                    go_roundw
                    case rel => exact ⟨k + 1, by omega, by go_num, below_step hbel d3 (Nat.le_refl _), HRR.out⟩
                    case measure => simp [intOf] <;> omega
                · simp [hr] at ho
                  subst ho
                  simp at hrr
                  subst hrr
                  have hr2 : (rr == 0) = false := by simpa using hr
                  have hr3 : (rr != 0) = true := by simpa using hr
                  replace hr := Lib.hid hr
                  go_wp2_with fail
                  refine (TB.out _).mono ?_
                  rintro e w2 ⟨rfl, rfl⟩
                  go_wp2_with fail
                  refine (OR.out _ _ _ _).mono ?_
                  rintro e w3 ⟨rfl, b3⟩
                  have d3 := below_step (alloc_one wr _) b3 (Nat.le_refl _)
                  go_wp2_with fail
                  go_ret
                  exact ⟨rfl, below_step hbel d3 (Nat.le_refl _)⟩
              · by_cases hr : rw_ = 0
                · subst hr
                  simp at ho
                  subst ho
                  by_cases h64 : 64 < sz
                  · simp [h64] at hrr
                    subst hrr
                    go_wp2_with fail
                    refine (TB.out _).mono ?_
                    rintro e w2 ⟨rfl, rfl⟩
                    go_wp2_with fail
                    refine (OW.out _ _ _ _).mono ?_
                    rintro e w3 ⟨rfl, b3⟩
                    have d3 := below_step (alloc_one wr _) b3 (Nat.le_refl _)
                    go_wp2_with fail
                    refine (SZ.out _ d3).mono ?_
                    rintro e w4 ⟨rfl, rfl⟩
                    go_wp2_with fail
                    go_ret
                    exact ⟨rfl, below_step hbel d3 (Nat.le_refl _)⟩
                  · simp [h64] at hrr
                    have HRR := Lib.hid hrr
                    clear hrr
                    go_wp2_with fail
                    refine (TB.out _).mono ?_
                    rintro e w2 ⟨rfl, rfl⟩
                    go_wp2_with fail
                    refine (OW.out _ _ _ _).mono ?_
                    rintro e w3 ⟨rfl, b3⟩
                    have d3 := below_step (alloc_one wr _) b3 (Nat.le_refl _)
                    go_wp2_with fail
                    refine (SZ.out _ d3).mono ?_
                    rintro e w4 ⟨rfl, rfl⟩
                    go_wp2_with fail
                    go_roundw
                    case rel => exact ⟨k + 1, by omega, by go_num, below_step hbel d3 (Nat.le_refl _), HRR.out⟩
                    case measure => simp [intOf] <;> omega
                · simp [hr] at ho
                  subst ho
                  simp at hrr
                  subst hrr
                  have hr2 : (rw_ == 0) = false := by simpa using hr
                  have hr3 : (rw_ != 0) = true := by simpa using hr
                  replace hr := Lib.hid hr
                  go_wp2_with fail
                  refine (TB.out _).mono ?_
                  rintro e w2 ⟨rfl, rfl⟩
                  go_wp2_with fail
                  refine (OW.out _ _ _ _).mono ?_
                  rintro e w3 ⟨rfl, b3⟩
                  have d3 := below_step (alloc_one wr _) b3 (Nat.le_refl _)
                  go_wp2_with fail
                  go_ret
                  exact ⟨rfl, below_step hbel d3 (Nat.le_refl _)⟩
            · simp [hb] at ho
              subst ho
              simp at hrr
              subst hrr
              have hk2 : (kb == vb) = false := by simpa using hb
              have hk3 : (kb != vb) = true := by simpa using hb
              replace hb := Lib.hid hb
              cases inn
              all_goals
                go_wp2_with fail
                refine (TB.out _).mono ?_
                rintro e w2 ⟨rfl, rfl⟩
                go_wp2_with fail
                go_ret
                exact ⟨rfl, below_step hbel (alloc_one _ _) (Nat.le_refl _)⟩
      · obtain rfl : k = n := by omega
        rw [Nat.sub_self] at hrr
        have hrr2 : r = 0 := hrr.symm
        subst hrr2
        go_wp2_with fail
        go_ret
        exact ⟨rfl, hbel⟩
end Go.Proofs.YtbmocffnnlfnjaaGreat
/-
  Walk: Peek of layer 15's reference.
  Conditions: none.
-/
namespace Go.Proofs.YtbmocffnnlfnjaaGreat
set_option linter.unusedVariables false
set_option linter.unusedSimpArgs false
open Go.RowKit
set_option maxRecDepth 100000 in
set_option maxHeartbeats 4000000 in
theorem rPeek_any {F : Nat → Prop} {w : World} {g gv lc vc : Nat} {lA vA : Option Addr} {xs vs : List Value} {D : Dc.Dic} (x y : Int) (h : DRt 72 w F g gv lA lc vA vc xs vs D) (hv : ∀ v ∈ D.v, v.length ≤ 1000000) : Calls Tryz.prog 94 #[.pointer (some ⟨g, 0, none⟩), .int .i64 x, .int .i64 y] w (PeekP (Dc.peekS D x y) w) := by
  have FD := rFind_any x y h
  cases hf : Dc.findS D.l x y with
  | none =>
    have hp : Dc.peekS D x y = none := by unfold Dc.peekS; rw [hf]; rfl
    have hneg : Dc.rfind D.l x y < 0 := by unfold Dc.rfind; rw [hf]; dsimp only; split <;> omega
    generalize Dc.rfind D.l x y = rf at *
    replace FD := Lib.hid FD
    rw [hp]
    have hd : decide (rf < 0) = true := decide_eq_true hneg
    clear hp hf hneg h
    go_enter Tryz.func94, Tryz.ntmps94
    go_wp2_with fail
    refine (FD.out).mono ?_
    rintro e w1 ⟨rfl, rfl⟩
    go_wp2_with fail
    go_ret2
    exact ⟨rfl, Below.refl _ _⟩
  | some k =>
    have hk := (Dc.find_some hf).2.1
    have hp : Dc.peekS D x y = some (D.v.getD k []) := by unfold Dc.peekS; rw [hf]; rfl
    have hrf : Dc.rfind D.l x y = (k : Int) := by unfold Dc.rfind; rw [hf]
    rw [hrf] at FD
    rw [hp]
    replace FD := Lib.hid FD
    obtain ⟨t0, t1⟩ := h.two
    have hln := val_len hv (k := k) (by rw [h.len]; exact hk)
    obtain ⟨A, n, c, hA, _, hg, hr, hcell, _⟩ := h.value hk
    subst hA
    have hn := hr.len
    have JN := Lib.hid (Join_any w (RB.none_ (B := 0)) hr (by omega) (Nat.zero_le _) (Nat.le_refl _))
    have hcap : D.l.length ≤ vc ∧ vc ≤ 9223372036854775807 := ⟨h.own.rv.le, h.own.rv.cap⟩
    have HC := Lib.hid hcap
    clear hr hcap hp hf hrf h
    generalize D.v.getD k [] = val at *
    subst hn
    generalize D.l.length = m at *
    go_enter Tryz.func94, Tryz.ntmps94
    go_wp2_with fail
    refine (FD.out).mono ?_
    rintro e w1 ⟨rfl, rfl⟩
    go_wp2_with fail
    refine (JN.out).mono ?_
    rintro e w2 ⟨A1, c1, rfl, o2, b2⟩
    rw [List.nil_append] at o2
    simp only [Nat.zero_add] at o2 ⊢
    go_wp2_with fail
    go_ret2
    exact ⟨A1, c1, rfl, o2, b2⟩
end Go.Proofs.YtbmocffnnlfnjaaGreat
/-
  Walks: the reference's Gather of layer 30.
  Conditions: none.
-/
namespace Go.Proofs.YtbmocffnnlfnjaaGreat
set_option linter.unusedVariables false
set_option linter.unusedSimpArgs false
open Go.RowKit
set_option maxRecDepth 100000 in
set_option maxHeartbeats 4000000 in
theorem RGather_any {F : Nat → Prop} {w : World} {g gv lc vc : Nat} {lA vA : Option Addr} {xs vs : List Value} {D : Dc.Dic} {A : Option Addr} {n c B : Nat} {ws : List Nat} (h : DRt 72 w F g gv lA lc vA vc xs vs D) (hv : ∀ v ∈ D.v, v.length ≤ 1000000) (hw : RW w B A n c ws) (hwl : ∀ x ∈ ws, x < 4294967296) (hB : B ≤ w.heap.size) : Calls Tryz.prog 74 #[.pointer (some ⟨g, 0, none⟩), .slice A n c] w (PackPost (Mp.gatherS D ws) w) := by
  have hl := hw.len
  have RI := RMCheck_any false h hw hwl hB
  have hgs : Mp.gatherS D ws = if Mp.checkS D.l false ws ≠ 0 then ([], 4) else Bt.packS (Mp.fldsS D ws) := rfl
  have hce := Mp.check_each (l := D.l) (inn := false) (ws := ws)
  generalize Mp.checkS D.l false ws = r at *
  by_cases hr : r = 0
  · subst hr
    simp only [ne_eq, not_true_eq_false, if_false] at hgs
    rw [hgs]
    have h8 : n ≤ 8 := by rw [← hl]; exact (hce rfl).1
    clear hgs hce
    replace RI := Lib.hid RI
    have HL := Lib.hid hl
    clear hl
    go_enter Tryz.func74, Tryz.ntmps74
    go_wp2_with fail
    refine (RI.out).mono ?_
    rintro e w1 ⟨rfl, b1⟩
    go_wp2_with fail
    go_loopw [6, 7] (fun v i wr => ∃ (k : Nat) (A1 : Option Addr) (c1 : Nat), k ≤ n ∧ i = .int .i64 k ∧ v = .slice A1 k c1 ∧ OS (FlW wr w.heap.size) wr w.heap.size 133 2 A1 k c1 (Mp.fldsS D (ws.take k)) ∧ Below w.heap.size w wr) (fun _ i _ => n - (intOf i).toNat)
    case atStart => exact ⟨0, _, _, by omega, rfl, rfl, OS.none_ _ _ _ _, b1⟩
    case round =>
      clear b1
      obtain ⟨k, A1, c1, hk, rfl, rfl, os, bb⟩ := hrel
      by_cases hlt : k < n
      · obtain ⟨b, o, rfl, hbB, q0⟩ := (hw.below (bb.mono hB)).at_ hlt
        have SP := RMSplit_any (ws.getD k 0) (word_lt hwl k) wr
        have PK := rPeek_any (Mp.ix (ws.getD k 0)) (Mp.sb (ws.getD k 0)) (h.below bb) hv
        have hnx := Mp.flds_take D ws (k := k) (by rw [HL.out]; exact hlt)
        have hpb := Mp.peek_bound hv (Mp.ix (ws.getD k 0)) (Mp.sb (ws.getD k 0))
        have hbt := Mp.bt_le (ws.getD k 0)
        unfold Mp.fld at hnx
        generalize ws.getD k 0 = x at *
        have HN := Lib.hid hnx
        clear hnx
        generalize Dc.peekS D (Mp.ix x) (Mp.sb x) = pv at *
        generalize (Mp.ix x : Int) = ixx at SP PK
        generalize (Mp.sb x : Int) = sbx at SP PK
        replace SP := Lib.hid SP; replace PK := Lib.hid PK
        go_wp2_with fail
        refine (SP.out).mono ?_
        rintro e w1 ⟨rfl, rfl⟩
        go_wp2_with fail
        refine (PK.out).mono ?_
        intro e w2 hpk
        obtain ⟨A2, c2, bq, rfl, o2, b2, _⟩ := hpk.any
        generalize pv.getD [] = l2 at *
        have d2 := below_step bb b2 (Nat.le_refl _)
        have os1 := os.below b2 (R' := FlW w2 w.heap.size) fun _ _ h => h.below b2
        have ow := (o2.ow).more (base' := w.heap.size) bb.size
        clear o2 hpk
        go_wp2_with (at_builtin; refine wpList_apps etrfl (fun w1 => FlW w1 w.heap.size) rfl (.tmp 39) (.tmp 43) rfl rfl rfl rfl w.heap.size os1 ⟨(Mp.bt x : Int), l2⟩ ⟨A2, l2.length, c2, rfl, ow⟩ rfl (field_oneCell _ _ _ _) (by omega) (by omega) d2.size (fun w1 A1 n1 c1 xs h g f cs hf => hf.beside h (by decide) g) ?_; intro A3 c3 w3 os3 b3 g3 _)
        go_roundw
        case rel => exact ⟨k + 1, A3, c3, by omega, by go_num, rfl, by rw [HN.out]; exact os3, d2.trans b3⟩
        case measure => simp [intOf] <;> omega
      · obtain rfl : k = n := by omega
        have hall : ws.take k = ws := List.take_of_length_le (by rw [HL.out]; omega)
        rw [hall] at os
        have rf : RFl wr wr.heap.size wr.heap.size A1 k c1 (Mp.fldsS D ws) := os.rs.imp fun _ _ h => h.flc
        have hfb := Mp.flds_bound hv ws
        have PA := RPack_any wr rf (by omega) (Nat.le_refl _) (Nat.le_refl _) (fun f hf => (hfb f hf).1) (fun f hf => by have := (hfb f hf).2; omega)
        unfold PackPost at PA ⊢
        generalize Bt.packS (Mp.fldsS D ws) = pk at *
        replace PA := Lib.hid PA
        clear hfb rf os hall
        go_wp2_with fail
        refine (PA.out).mono ?_
        rintro e w2 ⟨A2, c2, rfl, o2, b2⟩
        go_wp2_with fail
        go_ret2
        exact ⟨A2, c2, rfl, o2.more bb.size, below_step bb b2 (Nat.le_refl _)⟩
  · simp only [ne_eq, hr, not_false_eq_true, if_true] at hgs
    have hr2 : (r == 0) = false := by simpa using hr
    have hr3 : (r != 0) = true := by simpa using hr
    rw [hgs]
    clear hgs hce hr hl
    replace RI := Lib.hid RI
    go_enter Tryz.func74, Tryz.ntmps74
    go_wp2_with fail
    refine (RI.out).mono ?_
    rintro e w1 ⟨rfl, b1⟩
    go_wp2_with fail
    go_ret2
    exact pack_bad rfl b1
end Go.Proofs.YtbmocffnnlfnjaaGreat
/-
  Walks: Check, New, Id, Rest of the reference of layer 32.
  Conditions: none.
-/
namespace Go.Proofs.YtbmocffnnlfnjaaGreat
set_option linter.unusedVariables false
set_option linter.unusedSimpArgs false
open Go.RowKit Go.Sort
theorem Blk.ten {w : World} {g : Nat} {t : TypeId} {x0 x1 x2 x3 x4 x5 x6 x7 x8 x9 : Value} (h : Blk w g t #[x0, x1, x2, x3, x4, x5, x6, x7, x8, x9]) : (w.cell? ⟨g, 0, none⟩ = some x0 ∧ w.cell? ⟨g, 1, none⟩ = some x1 ∧ w.cell? ⟨g, 2, none⟩ = some x2 ∧ w.cell? ⟨g, 3, none⟩ = some x3 ∧ w.cell? ⟨g, 4, none⟩ = some x4 ∧ w.cell? ⟨g, 5, none⟩ = some x5 ∧ w.cell? ⟨g, 6, none⟩ = some x6 ∧ w.cell? ⟨g, 7, none⟩ = some x7 ∧ w.cell? ⟨g, 8, none⟩ = some x8 ∧ w.cell? ⟨g, 9, none⟩ = some x9) ∧ (w.frozen? ⟨g, 6, none⟩ = false ∧ w.frozen? ⟨g, 7, none⟩ = false ∧ w.frozen? ⟨g, 8, none⟩ = false ∧ w.frozen? ⟨g, 9, none⟩ = false) := ⟨⟨h.cell 0, h.cell 1, h.cell 2, h.cell 3, h.cell 4, h.cell 5, h.cell 6, h.cell 7, h.cell 8, h.cell 9⟩, h.frozen 6, h.frozen 7, h.frozen 8, h.frozen 9⟩
set_option maxRecDepth 100000 in
set_option maxHeartbeats 16000000 in
theorem RTCheck_any {F : Nat → Prop} {w : World} {g gv lc vc : Nat} {lA vA : Option Addr} {xs vs : List Value} {D : Dc.Dic} {A : Option Addr} {n c B : Nat} {ws : List Nat} (v : Nat) (hv : v < 4294967296) (t inh ev : Int) (h : DRt 72 w F g gv lA lc vA vc xs vs D) (hw : RW w B A n c ws) (hwl : ∀ x ∈ ws, x < 4294967296) (hB : B ≤ w.heap.size) :
    Calls Tryz.prog 12 #[.pointer (some ⟨g, 0, none⟩), .agg #[.int .u32 (v : Int), .int .i64 t, .int .i64 inh, .int .i64 ev, .slice A n c]] w fun e w' => e = .returned (.int .u32 (Tp.checkS D.l v t inh ev ws)) ∧ Below w.heap.size w w' := by
  have b0 := alloc_one w (.cells #[.int .u32 (v : Int), .int .i64 t, .int .i64 inh, .int .i64 ev, .slice A n c] 26)
  have K := Blk.new w 26 #[.int .u32 (v : Int), .int .i64 t, .int .i64 inh, .int .i64 ev, .slice A n c]
  have F0 := K.fiv
  have PL := fun w => RPlace_any v hv w
  have CK := fun w1 (hb : Below w.heap.size w w1) => RMCheck_any false (h.below hb) (hw.below (hb.mono hB)) hwl (Nat.le_trans hB hb.size)
  have hcs : Tp.checkS D.l v t inh ev ws = if Cob.place v ≠ 0 then Cob.place v else if Tp.kindB t inh ev = false then 101253168 else Mp.checkS D.l false ws := rfl
  rw [hcs]
  clear hcs h hw
  generalize Mp.checkS D.l false ws = r at *
  generalize Cob.place v = pl at *
  replace PL := Lib.hid PL; replace CK := Lib.hid CK
  by_cases hp : pl = 0
  case neg =>
    simp only [ne_eq, hp, not_false_eq_true, if_true]
    have hp2 : (pl == 0) = false := by simpa using hp
    have hp3 : (pl != 0) = true := by simpa using hp
    replace hp := Lib.hid hp
    go_enter Tryz.func12, Tryz.ntmps12
    go_wp2_with fail
    refine (PL.out _).mono ?_
    rintro e w1 ⟨rfl, b1⟩
    go_wp2_with fail
    go_ret
    exact ⟨rfl, below_step b0 b1 (Nat.le_refl _)⟩
  subst hp
  simp only [ne_eq, not_true_eq_false, if_false]
  have hcase : (t < 0 ∨ (240 < t ∧ t ≠ 254 ∧ t ≠ 255)) ∨ ((0 ≤ t ∧ t ≤ 240) ∨ t = 254 ∨ t = 255) := by omega
  rcases hcase with hbad | hgood
  · have hk : Tp.kindB t inh ev = false := by
      cases hk : Tp.kindB t inh ev with
      | false => rfl
      | true => have := (Tp.kind_parts hk).1; omega
    rw [hk]
    clear hk CK
    simp only [if_true]
    rcases hbad with h1 | ⟨h1, h2, h3⟩
    · go_enter Tryz.func12, Tryz.ntmps12
      go_wp2_with fail
      refine (PL.out _).mono ?_
      rintro e w1 ⟨rfl, b1⟩
      have F1 := (K.later b1).fiv
      clear F0
      go_wp2_with fail
      go_ret
      exact ⟨rfl, below_step b0 b1 (Nat.le_refl _)⟩
    · have e1 : (t != 254) = true := by simpa using h2
      have e2 : (t != 255) = true := by simpa using h3
      replace h2 := Lib.hid h2; replace h3 := Lib.hid h3
      go_enter Tryz.func12, Tryz.ntmps12
      go_wp2_with fail
      refine (PL.out _).mono ?_
      rintro e w1 ⟨rfl, b1⟩
      have F1 := (K.later b1).fiv
      clear F0
      go_wp2_with fail
      go_ret
      exact ⟨rfl, below_step b0 b1 (Nat.le_refl _)⟩
  have hik : (inh < 0 ∨ (0 ≤ inh ∧ 65535 < inh) ∨ (0 ≤ inh ∧ inh ≤ 65535 ∧ ev < 0) ∨ (0 ≤ inh ∧ inh ≤ 65535 ∧ 0 ≤ ev ∧ 65535 < ev)) ∨ (0 ≤ inh ∧ inh ≤ 65535 ∧ 0 ≤ ev ∧ ev ≤ 65535) := by omega
  rcases hik with hbad | ⟨i1, i2, i3, i4⟩
  · have hk : Tp.kindB t inh ev = false := by
      cases hk : Tp.kindB t inh ev with
      | false => rfl
      | true => have := (Tp.kind_parts hk).2; omega
    rw [hk]
    clear hk CK
    simp only [if_true]
    rcases hgood with ⟨h1, h2⟩ | rfl | rfl <;> rcases hbad with i1 | ⟨i1, i2⟩ | ⟨i1, i2, i3⟩ | ⟨i1, i2, i3, i4⟩
    all_goals
      go_enter Tryz.func12, Tryz.ntmps12
      go_wp2_with fail
      refine (PL.out _).mono ?_
      rintro e w1 ⟨rfl, b1⟩
      have F1 := (K.later b1).fiv
      clear F0
      go_wp2_with fail
      go_ret
      exact ⟨rfl, below_step b0 b1 (Nat.le_refl _)⟩
  · have hk : Tp.kindB t inh ev = true := by
      unfold Tp.kindB Tp.inB
      rw [decide_eq_true (show (0 : Int) ≤ inh ∧ inh ≤ 65535 from ⟨i1, i2⟩), decide_eq_true (show (0 : Int) ≤ ev ∧ ev ≤ 65535 from ⟨i3, i4⟩)]
      simp only [Bool.and_true, Bool.or_eq_true, decide_eq_true_eq]
      omega
    rw [hk]
    clear hk
    simp only [Bool.true_eq_false, if_false]
    rcases hgood with ⟨h1, h2⟩ | rfl | rfl
    all_goals
      go_enter Tryz.func12, Tryz.ntmps12
      go_wp2_with fail
      refine (PL.out _).mono ?_
      rintro e w1 ⟨rfl, b1⟩
      have F1 := (K.later b1).fiv
      have d1 := below_step b0 b1 (Nat.le_refl _)
      clear F0
      go_wp2_with fail
      refine (CK.out _ d1).mono ?_
      rintro e w2 ⟨rfl, b2⟩
      go_wp2_with fail
      go_ret
      exact ⟨rfl, below_step d1 b2 (Nat.le_refl _)⟩
/-- The reference's PDO, in memory. -/
structure TpRM (w : World) (base g gd : Nat) (v : Nat) (t inh ev : Int) (ws : List Nat) (Aw : Option Addr) (cw : Nat) (s : Tp.St) : Prop where
  gb : base ≤ g
  blk : Blk w g 81 #[.pointer (some ⟨gd, 0, none⟩), .int .u32 (v : Int), .int .i64 t, .int .i64 inh, .int .i64 ev, .slice Aw ws.length cw, .bool s.due, .int .i64 s.hold, .int .i64 s.left, .int .i64 s.count]
  words : OWt w base Aw ws.length cw ws
section
variable {w w' : World} {base g gd v : Nat} {t inh ev : Int} {ws : List Nat} {Aw : Option Addr} {cw : Nat} {s : Tp.St}
theorem TpRM.below (h : TpRM w base g gd v t inh ev ws Aw cw s) (hb : Below w.heap.size w w') : TpRM w' base g gd v t inh ev ws Aw cw s := ⟨h.gb, h.blk.later hb, h.words.below hb⟩
theorem TpRM.due (h : TpRM w base g gd v t inh ev ws Aw cw s) (b : Bool) : TpRM (w.setCell ⟨g, 6, none⟩ (.bool b)) base g gd v t inh ev ws Aw cw { s with due := b } := ⟨h.gb, h.blk.set_ 6 (.bool b), OV.off h.words h.blk (by decide)⟩
theorem TpRM.hld (h : TpRM w base g gd v t inh ev ws Aw cw s) (b : Int) : TpRM (w.setCell ⟨g, 7, none⟩ (.int .i64 b)) base g gd v t inh ev ws Aw cw { s with hold := b } := ⟨h.gb, h.blk.set_ 7 (.int .i64 b), OV.off h.words h.blk (by decide)⟩
theorem TpRM.lft (h : TpRM w base g gd v t inh ev ws Aw cw s) (b : Int) : TpRM (w.setCell ⟨g, 8, none⟩ (.int .i64 b)) base g gd v t inh ev ws Aw cw { s with left := b } := ⟨h.gb, h.blk.set_ 8 (.int .i64 b), OV.off h.words h.blk (by decide)⟩
theorem TpRM.cnt (h : TpRM w base g gd v t inh ev ws Aw cw s) (b : Int) : TpRM (w.setCell ⟨g, 9, none⟩ (.int .i64 b)) base g gd v t inh ev ws Aw cw { s with count := b } := ⟨h.gb, h.blk.set_ 9 (.int .i64 b), OV.off h.words h.blk (by decide)⟩
theorem TpRM.zero (h : TpRM w base g gd v t inh ev ws Aw cw s) : TpRM w 0 g gd v t inh ev ws Aw cw s := ⟨Nat.zero_le _, h.blk, OV.more h.words (Nat.zero_le _)⟩
theorem TpRM.mvk {G : Nat → Prop} (h : TpRM w base g gd v t inh ev ws Aw cw s) (hm : Mv G w w') (hg : ¬ G g) (hk : ∀ k, (Value.slice Aw ws.length cw).ownBlock = some k → ¬ G k) : TpRM w' base g gd v t inh ev ws Aw cw s := ⟨h.gb, h.blk.mv hm hg, OV.mvk h.words hm hk⟩
end
def RTNewP (l : List Ent.En) (gd v : Nat) (t inh ev : Int) (ws : List Nat) (w : World) (e : Ending) (w' : World) : Prop :=
  ∃ g Aw cw, e = .returned (.tuple #[.pointer (some ⟨g, 0, none⟩), .int .u32 (Tp.checkS l v t inh ev ws)]) ∧ Below w.heap.size w w' ∧ TpRM w' w.heap.size g gd v t inh ev ws Aw cw (Tp.restS ev)
set_option maxRecDepth 100000 in
set_option maxHeartbeats 8000000 in
theorem RTNew_any {F : Nat → Prop} {w : World} {g gv lc vc : Nat} {lA vA : Option Addr} {xs vs : List Value} {D : Dc.Dic} {A : Option Addr} {n c B : Nat} {ws : List Nat} (v : Nat) (hv : v < 4294967296) (t inh ev : Int) (h : DRt 72 w F g gv lA lc vA vc xs vs D) (hw : RW w B A n c ws) (hn : n ≤ 1000000) (hwl : ∀ x ∈ ws, x < 4294967296) (hB : B ≤ w.heap.size) :
    Calls Tryz.prog 10 #[.pointer (some ⟨g, 0, none⟩), .agg #[.int .u32 (v : Int), .int .i64 t, .int .i64 inh, .int .i64 ev, .slice A n c]] w (RTNewP D.l g v t inh ev ws w) := by
  have b0 := alloc_one w (.cells #[.int .u32 (v : Int), .int .i64 t, .int .i64 inh, .int .i64 ev, .slice A n c] 26)
  have K := Blk.new w 26 #[.int .u32 (v : Int), .int .i64 t, .int .i64 inh, .int .i64 ev, .slice A n c]
  have F0 := K.fiv
  have hl := hw.len
  subst hl
  have hr1 := RW.below hw (b0.mono hB)
  go_enter Tryz.func10, Tryz.ntmps10
  go_wp2_with (at_builtin; refine wpList_app ett rfl (.tmp 7) (.tmp 9) rfl rfl rfl w.heap.size (OV.none_ _ _ _ _) hr1 (by intro u hu; obtain ⟨x, _, rfl⟩ := List.mem_map.1 hu; rfl) (by omega) (by omega) b0.size ?_; simp only [Nat.zero_add, List.nil_append]; intro A2 c2 w2 o2 g2 _; have b2 : Below (w.alloc (.cells #[.int .u32 (v : Int), .int .i64 t, .int .i64 inh, .int .i64 ev, .slice A ws.length c] 26)).heap.size (w.alloc (.cells #[.int .u32 (v : Int), .int .i64 t, .int .i64 inh, .int .i64 ev, .slice A ws.length c] 26)) w2 := (Below.refl _ _).grown g2 (Nat.le_refl _) (fun k hk => by cases hk); have K2 := K.later b2; have F2 := K2.fiv; clear F0)
  have K3 := K2.set_ 4 (.slice A2 ws.length c2)
  have b3 := below_step b0 b2 (Nat.le_refl _)
  have d3 : Below w.heap.size w (w2.setCell ⟨w.heap.size, 4, none⟩ (.slice A2 ws.length c2)) := b3.setCell (p := ⟨w.heap.size, 4, none⟩) (Nat.le_refl _) _
  have o3 : OWt (w2.setCell ⟨w.heap.size, 4, none⟩ (.slice A2 ws.length c2)) w.heap.size A2 ws.length c2 ws := OV.off o2 K2 (by decide)
  have hD3 := h.below d3
  clear h hw hr1 o2 g2 b2 b0 K K2 F2 b3
  generalize w2.setCell ⟨w.heap.size, 4, none⟩ (.slice A2 ws.length c2) = w3 at *
  have K3' : Blk w3 w.heap.size 26 #[.int .u32 (v : Int), .int .i64 t, .int .i64 inh, .int .i64 ev, .slice A2 ws.length c2] := K3
  clear K3
  have T := K3'.fiv
  have t0 := cell_regrown T.1.1
  have t1 := cell_regrown T.1.2.1
  have t2 := cell_regrown T.1.2.2.1
  have t3 := cell_regrown T.1.2.2.2.1
  have t4 := cell_regrown T.1.2.2.2.2
  have CK := fun (w4 : World) (hb : Below w3.heap.size w3 w4) => RTCheck_any v hv t inh ev (hD3.below hb) ((o3.rw).below hb) hwl hb.size
  generalize hrr : Tp.checkS D.l v t inh ev ws = r at *
  have HRR := Lib.hid hrr
  clear hrr
  replace CK := Lib.hid CK
  clear hD3 T
  refine region_later (by kernel_rfl) ?_
  refine phase_later (by kernel_rfl) 4 (below_drew _) [0, 1, 2, 6, 7, 3, 4] rfl (by kernel_rfl) ?_
  simp only [picks, nth]
  repeat (go_big_quiet_step (fail))
  refine wpQuiet_nil ?_
  refine phase_two 5 8 3 rfl (by kernel_rfl) (by decide) (by decide) ?_ ?_
  · simp only [nth]
    go_wp2_with fail
    have b4 : Below w3.heap.size w3 (w3.drew.alloc (.cells #[.pointer (some ⟨g, 0, none⟩), .int .u32 (v : Int), .int .i64 t, .int .i64 inh, .int .i64 ev, .slice A2 ws.length c2, .bool false, .int .i64 0, .int .i64 ev, .int .i64 0] 81)) := (below_drew w3).trans (alloc_one w3.drew _)
    have KG := Blk.new w3.drew 81 #[.pointer (some ⟨g, 0, none⟩), .int .u32 (v : Int), .int .i64 t, .int .i64 inh, .int .i64 ev, .slice A2 ws.length c2, .bool false, .int .i64 0, .int .i64 ev, .int .i64 0]
    refine behind_since b4 ?_
    refine phase_op 8 2 rfl (by kernel_rfl) (by decide) ?_
    simp only [nth]
    go_wp2_with fail
    refine (CK.out _ b4).mono ?_
    rintro e w5 ⟨rfl, b5⟩
    have b45 := below_step b4 b5 (Nat.le_refl _)
    have d5 := below_step d3 b45 (Nat.le_refl _)
    have KG5 := KG.later b5
    have o5 : OWt w5 w.heap.size A2 ws.length c2 ws := OV.below o3 b45
    have hz3 : w.heap.size ≤ w3.drew.heap.size := d3.size
    go_wp2_with fail
    refine behind_since b45 ?_
    refine phase_later (by kernel_rfl) 0 b45 [9, 10] rfl (by kernel_rfl) ?_
    simp only [picks, nth]
    repeat (go_big_quiet_step (fail))
    refine wpQuiet_nil ?_
    refine phase_end (by kernel_rfl) ?_
    go_wp2_with fail
    go_ret2
    exact ⟨w3.heap.size, A2, c2, by rw [HRR.out]; rfl, d5, ⟨hz3, KG5, o5⟩⟩
  · simp only [nth]
    go_wp2_with fail
    refine (CK.out _ (below_drew w3)).mono ?_
    rintro e w5 ⟨rfl, b5⟩
    have b35 : Below w3.heap.size w3 w5 := (below_drew w3).trans b5
    go_wp2_with fail
    refine behind_since b35 ?_
    refine phase_op 5 2 rfl (by kernel_rfl) (by decide) ?_
    simp only [nth]
    have b4 := alloc_one w5 (.cells #[.pointer (some ⟨g, 0, none⟩), .int .u32 (v : Int), .int .i64 t, .int .i64 inh, .int .i64 ev, .slice A2 ws.length c2, .bool false, .int .i64 0, .int .i64 ev, .int .i64 0] 81)
    have KG5 := Blk.new w5 81 #[.pointer (some ⟨g, 0, none⟩), .int .u32 (v : Int), .int .i64 t, .int .i64 inh, .int .i64 ev, .slice A2 ws.length c2, .bool false, .int .i64 0, .int .i64 ev, .int .i64 0]
    have b45 := below_step b35 b4 (Nat.le_refl _)
    have d5 := below_step d3 b45 (Nat.le_refl _)
    have hz3 : w.heap.size ≤ w5.heap.size := Nat.le_trans d3.size b35.size
    go_wp2_with fail
    refine behind_since b45 ?_
    refine phase_later (by kernel_rfl) 0 b45 [9, 10] rfl (by kernel_rfl) ?_
    simp only [picks, nth]
    repeat (go_big_quiet_step (fail))
    refine wpQuiet_nil ?_
    refine phase_end (by kernel_rfl) ?_
    have o5 : OWt (w5.alloc (.cells #[.pointer (some ⟨g, 0, none⟩), .int .u32 (v : Int), .int .i64 t, .int .i64 inh, .int .i64 ev, .slice A2 ws.length c2, .bool false, .int .i64 0, .int .i64 ev, .int .i64 0] 81)) w.heap.size A2 ws.length c2 ws := OV.below o3 b45
    go_wp2_with fail
    go_ret2
    exact ⟨w5.heap.size, A2, c2, by rw [HRR.out]; rfl, d5, ⟨hz3, KG5, o5⟩⟩
set_option maxHeartbeats 1000000 in
theorem RTId_any {w : World} {base g gd v : Nat} {t inh ev : Int} {ws : List Nat} {Aw : Option Addr} {cw : Nat} {s : Tp.St} (hv : v < 4294967296) (hb : Cob.bad v = false) (h : TpRM w base g gd v t inh ev ws Aw cw s) : Calls Tryz.prog 27 #[.pointer (some ⟨g, 0, none⟩)] w fun e w' => e = .returned (.int .i64 (Cob.pdo v : Int)) ∧ Below w.heap.size w w' := by
  have F := h.blk.cell 1
  have SP := Lib.hid (fun w => RCSplit_ok v hv hb w)
  have hpd : Cob.pdo v = if Cob.off v = true then 0 else Cob.id v := rfl
  rw [hpd]
  clear h
  generalize Cob.noR v = nr at *
  generalize Cob.id v = i at *
  cases ho : Cob.off v
  all_goals
    rw [ho] at SP
    simp only [Bool.false_eq_true, if_false, if_true]
    clear ho hpd
    go_enter Tryz.func27, Tryz.ntmps27
    go_wp2_with fail
    refine (SP.out _).mono ?_
    rintro e w1 ⟨rfl, b1⟩
    first
      | have K := (Blk.new w1 93 #[.bool false, .bool nr, .int .i64 (i : Int)]).three
        go_wp2_with fail
        go_ret
        exact ⟨rfl, below_step b1 (alloc_one _ _) (Nat.le_refl _)⟩
      | have K := (Blk.new w1 93 #[.bool true, .bool nr, .int .i64 (i : Int)]).three
        go_wp2_with fail
        go_ret
        exact ⟨rfl, below_step b1 (alloc_one _ _) (Nat.le_refl _)⟩
set_option maxHeartbeats 1000000 in
theorem RRest32_any {w : World} {base g gd v : Nat} {t inh ev : Int} {ws : List Nat} {Aw : Option Addr} {cw : Nat} {s : Tp.St} (h : TpRM w base g gd v t inh ev ws Aw cw s) :
    Calls Tryz.prog 20 #[.pointer (some ⟨g, 0, none⟩)] w fun e w' => e = .returned (.tuple #[]) ∧ Mv (fun q => q = g) w w' ∧ TpRM w' base g gd v t inh ev ws Aw cw (Tp.restS ev) := by
  have H1 := h.due false
  have H2 := H1.hld 0
  have H3 := H2.lft ev
  have H4 := H3.cnt 0
  have F := h.blk.ten
  have F1 := H1.blk.ten
  have F2 := H2.blk.ten
  have F3 := H3.blk.ten
  have M := (((Mv.setCell w ⟨g, 6, none⟩ (.bool false)).trans (Mv.setCell _ ⟨g, 7, none⟩ (.int .i64 0)) (fun _ _ e => e)).trans (Mv.setCell _ ⟨g, 8, none⟩ (.int .i64 ev)) (fun _ _ e => e)).trans (Mv.setCell _ ⟨g, 9, none⟩ (.int .i64 0)) (fun _ _ e => e)
  clear h H1 H2 H3
  go_enter Tryz.func20, Tryz.ntmps20
  go_wp2_with fail
  go_end0
  exact ⟨rfl, M, H4⟩
end Go.Proofs.YtbmocffnnlfnjaaGreat
