/-
  Texts joined: TpdOps, TpdPulse, TpdTick, TpdHas, DicPut, DicRFind.
  Conditions: none.
-/
import Derived.Test.YtbmocffnnlfnjaaJ04
import Derived.Test.YtbmocffnnlfnjaaJ06
import Derived.Test.YtbmocffnnlfnjaaJ08
import Derived.Test.YtbmocffnnlfnjaaJ11
import Derived.Test.YtbmocffnnlfnjaaJ12
/-
  Walks: Trigger, Pulse of layer 32.
  Conditions: none.
-/
namespace Go.Proofs.Ytbmocffnnlfnjaa
set_option linter.unusedVariables false
set_option linter.unusedSimpArgs false
open Go.RowKit
/-- What is sent, and the state behind, of what an operation says. -/
def outT (v : Nat) (o : Option (List UInt8)) (x : Bool × Tp.St) : List Can.Fr := if x.1 = true then framesS v o else []
def stT (inh ev : Int) (x : Bool × Tp.St) : Tp.St := if x.1 = true then Tp.sentS inh ev x.2 else x.2
section
variable {F : Nat → Prop} {w : World} {base g gd v : Nat} {t inh ev : Int} {ws : List Nat} {Aw : Option Addr} {cw : Nat} {s : Tp.St} {gv lc vc : Nat} {la : Addr} {vA : Option Addr} {xs vs : List Value} {D : Dc.Dic}
theorem TpM.due (h : TpM w base g gd v t inh ev ws Aw cw s) (b : Bool) : TpM (w.setCell ⟨g, 7, none⟩ (.bool b)) base g gd v t inh ev ws Aw cw { s with due := b } := ⟨h.gb, h.blk.set_ 7 (.bool b), OV.off h.words h.blk (by decide)⟩
theorem TpM.cnt (h : TpM w base g gd v t inh ev ws Aw cw s) (b : Int) : TpM (w.setCell ⟨g, 10, none⟩ (.int .i64 b)) base g gd v t inh ev ws Aw cw { s with count := b } := ⟨h.gb, h.blk.set_ 10 (.int .i64 b), OV.off h.words h.blk (by decide)⟩
set_option maxRecDepth 100000 in
set_option maxHeartbeats 4000000 in
theorem Trigger_any (h : TpM w base g gd v t inh ev ws Aw cw s) (hD : DRt 62 w F gd gv (some la) lc vA vc xs vs D) (hF : ∀ q, F q → q ≠ g) (hd : ∀ e ∈ D.l, e.dflt.length ≤ 1000000) (hv : ∀ v ∈ D.v, v.length ≤ 1000000) (hwl : ∀ x ∈ ws, x < 4294967296) :
    Calls Try.prog 12 #[.pointer (some ⟨g, 0, none⟩)] w (SendP (outT v (Tp.bytesS D v ws) (Tp.trigS t s)) base g gd v t inh ev ws Aw cw (stT inh ev (Tp.trigS t s)) w) := by
  have F0 := h.blk.eleven
  have DV := driven_any h
  have SD := Lib.hid (Send_any h hD hF hd hv hwl)
  have TD := h.due true
  have MD : Mv (fun q => q = g) w (w.setCell ⟨g, 7, none⟩ (.bool true)) := Mv.setCell w ⟨g, 7, none⟩ _
  by_cases ht : 254 ≤ t
  · rw [decide_eq_true ht] at DV
    have t0 : (t == 0) = false := by rw [beq_eq_false_iff_ne]; omega
    have DV := Lib.hid DV
    by_cases hh : s.hold = 0
    · have HT := Lib.hid (show Tp.trigS t s = (true, s) by unfold Tp.trigS; rw [if_pos ht, if_pos hh])
      rw [hh] at F0
      clear hh hD TD MD h
      go_enter Try.func12, Try.ntmps12
      go_wp2_with fail
      refine (DV.out).mono ?_
      rintro e _ ⟨rfl, rfl⟩
      go_wp2_with fail
      refine (SD.out).mono ?_
      rintro e w2 ⟨A, c, rfl, o, M, T2⟩
      go_wp2_with fail
      go_ret
      rw [HT.out]
      exact ⟨A, c, rfl, o, M, T2⟩
    · have HT := Lib.hid (show Tp.trigS t s = (false, { s with due := true }) by unfold Tp.trigS; rw [if_pos ht, if_neg hh])
      have hh2 : (s.hold == 0) = false := by simpa using hh
      clear hh hD h SD
      go_enter Try.func12, Try.ntmps12
      go_wp2_with fail
      refine (DV.out).mono ?_
      rintro e _ ⟨rfl, rfl⟩
      go_wp2_with fail
      go_ret
      rw [HT.out]
      exact send_none rfl MD TD
  · rw [decide_eq_false ht] at DV
    have DV := Lib.hid DV
    by_cases h0 : t = 0
    · subst h0
      have HT := Lib.hid (show Tp.trigS 0 s = (false, { s with due := true }) by unfold Tp.trigS; rw [if_neg ht, if_pos rfl])
      clear hD h SD
      go_enter Try.func12, Try.ntmps12
      go_wp2_with fail
      refine (DV.out).mono ?_
      rintro e _ ⟨rfl, rfl⟩
      go_wp2_with fail
      go_ret
      rw [HT.out]
      exact send_none rfl MD TD
    · have HT := Lib.hid (show Tp.trigS t s = (false, s) by unfold Tp.trigS; rw [if_neg ht, if_neg h0])
      have t0 : (t == 0) = false := by simpa using h0
      clear h0 hD SD MD TD
      have H := Lib.hid h
      clear h
      go_enter Try.func12, Try.ntmps12
      go_wp2_with fail
      refine (DV.out).mono ?_
      rintro e _ ⟨rfl, rfl⟩
      go_wp2_with fail
      go_ret
      rw [HT.out]
      exact send_none rfl (Mv.refl _ _) H.out
end
end Go.Proofs.Ytbmocffnnlfnjaa
/-
  Walks: Pulse of layer 32.
  Conditions: none.
-/
namespace Go.Proofs.Ytbmocffnnlfnjaa
set_option linter.unusedVariables false
set_option linter.unusedSimpArgs false
open Go.RowKit Go.Sort
section
variable {F : Nat → Prop} {w : World} {base g gd v : Nat} {t inh ev : Int} {ws : List Nat} {Aw : Option Addr} {cw : Nat} {s : Tp.St} {gv lc vc : Nat} {la : Addr} {vA : Option Addr} {xs vs : List Value} {D : Dc.Dic}
set_option maxRecDepth 100000 in
set_option maxHeartbeats 4000000 in
theorem TPulse_any (h : TpM w base g gd v t inh ev ws Aw cw s) (hcnt : 0 ≤ s.count ∧ s.count ≤ 1000) (hD : DRt 62 w F gd gv (some la) lc vA vc xs vs D) (hF : ∀ q, F q → q ≠ g) (hd : ∀ e ∈ D.l, e.dflt.length ≤ 1000000) (hv : ∀ v ∈ D.v, v.length ≤ 1000000) (hwl : ∀ x ∈ ws, x < 4294967296) :
    Calls Try.prog 14 #[.pointer (some ⟨g, 0, none⟩)] w (SendP (outT v (Tp.bytesS D v ws) (Tp.pulseS t s)) base g gd v t inh ev ws Aw cw (stT inh ev (Tp.pulseS t s)) w) := by
  have F0 := h.blk.eleven
  have DV := driven_any h
  by_cases ht : 254 ≤ t
  · rw [decide_eq_true ht] at DV
    have DV := Lib.hid DV
    have HT := Lib.hid (show Tp.pulseS t s = (false, s) by unfold Tp.pulseS; rw [if_pos ht])
    have H := Lib.hid h
    clear h hD
    go_enter Try.func14, Try.ntmps14
    go_wp2_with fail
    refine (DV.out).mono ?_
    rintro e _ ⟨rfl, rfl⟩
    go_wp2_with fail
    go_ret
    rw [HT.out]
    exact send_none rfl (Mv.refl _ _) H.out
  · rw [decide_eq_false ht] at DV
    have DV := Lib.hid DV
    by_cases h0 : t = 0
    · subst h0
      have HT := Lib.hid (show Tp.pulseS 0 s = (s.due, s) by unfold Tp.pulseS; rw [if_neg ht, if_pos rfl])
      have SD := Lib.hid (Send_any h hD hF hd hv hwl)
      have H := Lib.hid h
      clear hD h
      cases hdu : s.due
      · rw [hdu] at F0 HT
        clear hdu
        go_enter Try.func14, Try.ntmps14
        go_wp2_with fail
        refine (DV.out).mono ?_
        rintro e _ ⟨rfl, rfl⟩
        go_wp2_with fail
        go_ret
        rw [HT.out]
        exact send_none rfl (Mv.refl _ _) H.out
      · rw [hdu] at F0 HT
        clear hdu
        go_enter Try.func14, Try.ntmps14
        go_wp2_with fail
        refine (DV.out).mono ?_
        rintro e _ ⟨rfl, rfl⟩
        go_wp2_with fail
        refine (SD.out).mono ?_
        rintro e w2 ⟨A, c, rfl, o, M, T2⟩
        go_wp2_with fail
        go_ret
        rw [HT.out]
        exact ⟨A, c, rfl, o, M, T2⟩
    · have t0 : (t == 0) = false := by simpa using h0
      have T1 := h.cnt (s.count + 1)
      have M1 : Mv (fun q => q = g) w (w.setCell ⟨g, 10, none⟩ (.int .i64 (s.count + 1))) := Mv.setCell w ⟨g, 10, none⟩ _
      have F1 := T1.blk.eleven
      have F1a := cell_regrown (T1.blk.cell 2)
      have F1b := cell_regrown (T1.blk.cell 10)
      by_cases hlt : s.count + 1 < t
      · have HT := Lib.hid (show Tp.pulseS t s = (false, { s with count := s.count + 1 }) by unfold Tp.pulseS; rw [if_neg ht, if_neg h0, if_pos hlt])
        clear hD h h0
        go_enter Try.func14, Try.ntmps14
        go_wp2_with fail
        refine (DV.out).mono ?_
        rintro e _ ⟨rfl, rfl⟩
        go_wp2_with fail
        refine wp_region_quiet_below (by kernel_rfl) (by kernel_rfl) ?_
        repeat (go_big_quiet_step (fail))
        refine wpQuiet_nil ?_
        intro _ hw'
        obtain ⟨⟨dq, osq⟩, hw''⟩ := hw'
        subst hw''
        dsimp only
        have bq := below_regrown (w.setCell ⟨g, 10, none⟩ (.int .i64 (s.count + 1))) dq osq
        have Tq := T1.below bq
        have Mq : Mv (fun q => q = g) w (grow (redrawn (w.setCell ⟨g, 10, none⟩ (.int .i64 (s.count + 1))) dq) osq) := M1.trans (Mv.of_new bq (fun q => q = g)) (fun _ _ e => e)
        clear F1 F1a F1b bq T1 M1
        generalize grow (redrawn (w.setCell ⟨g, 10, none⟩ (.int .i64 (s.count + 1))) dq) osq = wq at *
        go_wp2_with fail
        go_ret
        rw [HT.out]
        exact send_none rfl Mq Tq
      · have HT := Lib.hid (show Tp.pulseS t s = (true, { s with count := 0 }) by unfold Tp.pulseS; rw [if_neg ht, if_neg h0, if_neg hlt])
        clear h h0
        go_enter Try.func14, Try.ntmps14
        go_wp2_with fail
        refine (DV.out).mono ?_
        rintro e _ ⟨rfl, rfl⟩
        go_wp2_with fail
        refine wp_region_quiet_below (by kernel_rfl) (by kernel_rfl) ?_
        repeat (go_big_quiet_step (fail))
        refine wpQuiet_nil ?_
        intro _ hw'
        obtain ⟨⟨dq, osq⟩, hw''⟩ := hw'
        subst hw''
        dsimp only
        have bq := below_regrown (w.setCell ⟨g, 10, none⟩ (.int .i64 (s.count + 1))) dq osq
        have Tq := T1.below bq
        have Mq : Mv (fun q => q = g) w (grow (redrawn (w.setCell ⟨g, 10, none⟩ (.int .i64 (s.count + 1))) dq) osq) := M1.trans (Mv.of_new bq (fun q => q = g)) (fun _ _ e => e)
        clear F1 F1a F1b bq T1 M1
        generalize grow (redrawn (w.setCell ⟨g, 10, none⟩ (.int .i64 (s.count + 1))) dq) osq = wq at *
        have T2 := Tq.cnt 0
        have M2 : Mv (fun q => q = g) w (wq.setCell ⟨g, 10, none⟩ (.int .i64 0)) := Mq.trans (Mv.setCell _ ⟨g, 10, none⟩ _) (fun _ _ e => e)
        have SD := Lib.hid (Send_any T2 (hD.mv M2 fun q _ hf => hF q hf) hF hd hv hwl)
        have Fq := Tq.blk.eleven
        clear hD Tq T2
        go_wp2_with fail
        refine (SD.out).mono ?_
        rintro e w2 ⟨A, c, rfl, o, M, T3⟩
        go_wp2_with fail
        go_ret
        rw [HT.out]
        exact ⟨A, c, rfl, OS.more o M2.size fun f cs ⟨A, n, c, h1, h2⟩ => ⟨A, n, c, h1, h2.more M2.size⟩, M2.trans M fun _ _ e => e, T3⟩
end
end Go.Proofs.Ytbmocffnnlfnjaa
/-
  Walks: Tick of layer 32.
  Conditions: none.
-/
namespace Go.Proofs.Ytbmocffnnlfnjaa
set_option linter.unusedVariables false
set_option linter.unusedSimpArgs false
open Go.RowKit Go.Sort
section
variable {F : Nat → Prop} {w : World} {base g gd v : Nat} {t inh ev : Int} {ws : List Nat} {Aw : Option Addr} {cw : Nat} {s : Tp.St} {gv lc vc : Nat} {la : Addr} {vA : Option Addr} {xs vs : List Value} {D : Dc.Dic}
theorem TpM.hld (h : TpM w base g gd v t inh ev ws Aw cw s) (b : Int) : TpM (w.setCell ⟨g, 8, none⟩ (.int .i64 b)) base g gd v t inh ev ws Aw cw { s with hold := b } := ⟨h.gb, h.blk.set_ 8 (.int .i64 b), OV.off h.words h.blk (by decide)⟩
theorem TpM.lft (h : TpM w base g gd v t inh ev ws Aw cw s) (b : Int) : TpM (w.setCell ⟨g, 9, none⟩ (.int .i64 b)) base g gd v t inh ev ws Aw cw { s with left := b } := ⟨h.gb, h.blk.set_ 9 (.int .i64 b), OV.off h.words h.blk (by decide)⟩
set_option maxRecDepth 100000 in
set_option maxHeartbeats 4000000 in
theorem TTick_any (h : TpM w base g gd v t inh ev ws Aw cw s) (hh : 0 ≤ s.hold ∧ s.hold ≤ 65535) (hl : 0 ≤ s.left ∧ s.left ≤ 65535) (hD : DRt 62 w F gd gv (some la) lc vA vc xs vs D) (hF : ∀ q, F q → q ≠ g) (hd : ∀ e ∈ D.l, e.dflt.length ≤ 1000000) (hv : ∀ v ∈ D.v, v.length ≤ 1000000) (hwl : ∀ x ∈ ws, x < 4294967296) :
    Calls Try.prog 13 #[.pointer (some ⟨g, 0, none⟩)] w (SendP (outT v (Tp.bytesS D v ws) (Tp.tickS t s)) base g gd v t inh ev ws Aw cw (stT inh ev (Tp.tickS t s)) w) := by
  have F0 := h.blk.eleven
  have DV := driven_any h
  by_cases ht : 254 ≤ t
  · rw [decide_eq_true ht] at DV
    have DV := Lib.hid DV
    obtain ⟨due, hold, left, count⟩ := s
    dsimp only at hh hl F0
    obtain ⟨hh1, hh2⟩ := hh
    obtain ⟨hl1', hl2'⟩ := hl
    by_cases hA : hold ≤ 1
    · skip
      rcases (show left = 0 ∨ left = 1 ∨ 1 < left by omega) with rfl | rfl | hl1
      · skip
        cases due
        · have T1 := h.hld (0)
          have M1 : Mv (fun q => q = g) w (w.setCell ⟨g, 8, none⟩ (.int .i64 (0))) := Mv.setCell w ⟨g, 8, none⟩ _
          have F1 := T1.blk.eleven
          have HT := Lib.hid (show Tp.tickS t ⟨false, hold, 0, count⟩ = (false, (⟨false, 0, 0, count⟩ : Tp.St)) by unfold Tp.tickS Tp.downS; simp only [if_pos ht, if_pos hA]; simp)
          clear hD h 
          go_enter Try.func13, Try.ntmps13
          go_wp2_with fail
          refine (DV.out).mono ?_
          rintro e _ ⟨rfl, rfl⟩
          go_wp2_with fail
          go_ret
          rw [HT.out]
          exact send_none rfl M1 T1
        · have T1 := h.hld (0)
          have M1 : Mv (fun q => q = g) w (w.setCell ⟨g, 8, none⟩ (.int .i64 (0))) := Mv.setCell w ⟨g, 8, none⟩ _
          have F1 := T1.blk.eleven
          have HT := Lib.hid (show Tp.tickS t ⟨true, hold, 0, count⟩ = (true, (⟨true, 0, 0, count⟩ : Tp.St)) by unfold Tp.tickS Tp.downS; simp only [if_pos ht, if_pos hA]; simp)
          have SD := Lib.hid (Send_any T1 (hD.mv M1 fun q _ hf => hF q hf) hF hd hv hwl)
          clear hD h 
          go_enter Try.func13, Try.ntmps13
          go_wp2_with fail
          refine (DV.out).mono ?_
          rintro e _ ⟨rfl, rfl⟩
          go_wp2_with fail
          refine (SD.out).mono ?_
          rintro e w2 ⟨A, c, rfl, o, M, T4⟩
          go_wp2_with fail
          go_ret
          rw [HT.out]
          exact ⟨A, c, rfl, OS.more o M1.size fun f cs ⟨A, n, c, h1, h2⟩ => ⟨A, n, c, h1, h2.more M1.size⟩, M1.trans M fun _ _ e => e, T4⟩
      · skip
        cases due
        · have T1 := h.hld (0)
          have M1 : Mv (fun q => q = g) w (w.setCell ⟨g, 8, none⟩ (.int .i64 (0))) := Mv.setCell w ⟨g, 8, none⟩ _
          have F1 := T1.blk.eleven
          have T2 := T1.lft (0)
          have F2 := T2.blk.eleven
          have T3 := T2.due true
          have F3 := T3.blk.eleven
          have M3 : Mv (fun q => q = g) w (((w.setCell ⟨g, 8, none⟩ (.int .i64 (0))).setCell ⟨g, 9, none⟩ (.int .i64 (0))).setCell ⟨g, 7, none⟩ (.bool true)) := (M1.trans (Mv.setCell (w.setCell ⟨g, 8, none⟩ (.int .i64 (0))) ⟨g, 9, none⟩ (.int .i64 (0))) (fun _ _ e => e)).trans (Mv.setCell ((w.setCell ⟨g, 8, none⟩ (.int .i64 (0))).setCell ⟨g, 9, none⟩ (.int .i64 (0))) ⟨g, 7, none⟩ (.bool true)) (fun _ _ e => e)
          have HT := Lib.hid (show Tp.tickS t ⟨false, hold, 1, count⟩ = (true, (⟨true, 0, 0, count⟩ : Tp.St)) by unfold Tp.tickS Tp.downS; simp only [if_pos ht, if_pos hA]; simp)
          have SD := Lib.hid (Send_any T3 (hD.mv M3 fun q _ hf => hF q hf) hF hd hv hwl)
          clear hD h 
          go_enter Try.func13, Try.ntmps13
          go_wp2_with fail
          refine (DV.out).mono ?_
          rintro e _ ⟨rfl, rfl⟩
          go_wp2_with fail
          refine (SD.out).mono ?_
          rintro e w2 ⟨A, c, rfl, o, M, T4⟩
          go_wp2_with fail
          go_ret
          rw [HT.out]
          exact ⟨A, c, rfl, OS.more o M3.size fun f cs ⟨A, n, c, h1, h2⟩ => ⟨A, n, c, h1, h2.more M3.size⟩, M3.trans M fun _ _ e => e, T4⟩
        · have T1 := h.hld (0)
          have M1 : Mv (fun q => q = g) w (w.setCell ⟨g, 8, none⟩ (.int .i64 (0))) := Mv.setCell w ⟨g, 8, none⟩ _
          have F1 := T1.blk.eleven
          have T2 := T1.lft (0)
          have F2 := T2.blk.eleven
          have T3 := T2.due true
          have F3 := T3.blk.eleven
          have M3 : Mv (fun q => q = g) w (((w.setCell ⟨g, 8, none⟩ (.int .i64 (0))).setCell ⟨g, 9, none⟩ (.int .i64 (0))).setCell ⟨g, 7, none⟩ (.bool true)) := (M1.trans (Mv.setCell (w.setCell ⟨g, 8, none⟩ (.int .i64 (0))) ⟨g, 9, none⟩ (.int .i64 (0))) (fun _ _ e => e)).trans (Mv.setCell ((w.setCell ⟨g, 8, none⟩ (.int .i64 (0))).setCell ⟨g, 9, none⟩ (.int .i64 (0))) ⟨g, 7, none⟩ (.bool true)) (fun _ _ e => e)
          have HT := Lib.hid (show Tp.tickS t ⟨true, hold, 1, count⟩ = (true, (⟨true, 0, 0, count⟩ : Tp.St)) by unfold Tp.tickS Tp.downS; simp only [if_pos ht, if_pos hA]; simp)
          have SD := Lib.hid (Send_any T3 (hD.mv M3 fun q _ hf => hF q hf) hF hd hv hwl)
          clear hD h 
          go_enter Try.func13, Try.ntmps13
          go_wp2_with fail
          refine (DV.out).mono ?_
          rintro e _ ⟨rfl, rfl⟩
          go_wp2_with fail
          refine (SD.out).mono ?_
          rintro e w2 ⟨A, c, rfl, o, M, T4⟩
          go_wp2_with fail
          go_ret
          rw [HT.out]
          exact ⟨A, c, rfl, OS.more o M3.size fun f cs ⟨A, n, c, h1, h2⟩ => ⟨A, n, c, h1, h2.more M3.size⟩, M3.trans M fun _ _ e => e, T4⟩
      · have hl2 : ¬ left = 1 := by omega
        have hl0 : (left - 1 == 0) = false := by rw [beq_eq_false_iff_ne]; omega
        have hlp : 0 < left := by omega
        cases due
        · have T1 := h.hld (0)
          have M1 : Mv (fun q => q = g) w (w.setCell ⟨g, 8, none⟩ (.int .i64 (0))) := Mv.setCell w ⟨g, 8, none⟩ _
          have F1 := T1.blk.eleven
          have T2 := T1.lft (left - 1)
          have F2 := T2.blk.eleven
          have T3 := T2.due false
          have F3 := T3.blk.eleven
          have M3 : Mv (fun q => q = g) w (((w.setCell ⟨g, 8, none⟩ (.int .i64 (0))).setCell ⟨g, 9, none⟩ (.int .i64 (left - 1))).setCell ⟨g, 7, none⟩ (.bool false)) := (M1.trans (Mv.setCell (w.setCell ⟨g, 8, none⟩ (.int .i64 (0))) ⟨g, 9, none⟩ (.int .i64 (left - 1))) (fun _ _ e => e)).trans (Mv.setCell ((w.setCell ⟨g, 8, none⟩ (.int .i64 (0))).setCell ⟨g, 9, none⟩ (.int .i64 (left - 1))) ⟨g, 7, none⟩ (.bool false)) (fun _ _ e => e)
          have HT := Lib.hid (show Tp.tickS t ⟨false, hold, left, count⟩ = (false, (⟨false, 0, left - 1, count⟩ : Tp.St)) by unfold Tp.tickS Tp.downS; simp only [if_pos ht, if_pos hA]; simp [hlp, hl2])
          clear hD h 
          go_enter Try.func13, Try.ntmps13
          go_wp2_with fail
          refine (DV.out).mono ?_
          rintro e _ ⟨rfl, rfl⟩
          go_wp2_with fail
          go_ret
          rw [HT.out]
          exact send_none rfl M3 T3
        · have T1 := h.hld (0)
          have M1 : Mv (fun q => q = g) w (w.setCell ⟨g, 8, none⟩ (.int .i64 (0))) := Mv.setCell w ⟨g, 8, none⟩ _
          have F1 := T1.blk.eleven
          have T2 := T1.lft (left - 1)
          have F2 := T2.blk.eleven
          have T3 := T2.due true
          have F3 := T3.blk.eleven
          have M3 : Mv (fun q => q = g) w (((w.setCell ⟨g, 8, none⟩ (.int .i64 (0))).setCell ⟨g, 9, none⟩ (.int .i64 (left - 1))).setCell ⟨g, 7, none⟩ (.bool true)) := (M1.trans (Mv.setCell (w.setCell ⟨g, 8, none⟩ (.int .i64 (0))) ⟨g, 9, none⟩ (.int .i64 (left - 1))) (fun _ _ e => e)).trans (Mv.setCell ((w.setCell ⟨g, 8, none⟩ (.int .i64 (0))).setCell ⟨g, 9, none⟩ (.int .i64 (left - 1))) ⟨g, 7, none⟩ (.bool true)) (fun _ _ e => e)
          have HT := Lib.hid (show Tp.tickS t ⟨true, hold, left, count⟩ = (true, (⟨true, 0, left - 1, count⟩ : Tp.St)) by unfold Tp.tickS Tp.downS; simp only [if_pos ht, if_pos hA]; simp [hlp, hl2])
          have SD := Lib.hid (Send_any T3 (hD.mv M3 fun q _ hf => hF q hf) hF hd hv hwl)
          clear hD h 
          go_enter Try.func13, Try.ntmps13
          go_wp2_with fail
          refine (DV.out).mono ?_
          rintro e _ ⟨rfl, rfl⟩
          go_wp2_with fail
          refine (SD.out).mono ?_
          rintro e w2 ⟨A, c, rfl, o, M, T4⟩
          go_wp2_with fail
          go_ret
          rw [HT.out]
          exact ⟨A, c, rfl, OS.more o M3.size fun f cs ⟨A, n, c, h1, h2⟩ => ⟨A, n, c, h1, h2.more M3.size⟩, M3.trans M fun _ _ e => e, T4⟩
    · have hB := hA
      have hB1 : 1 < hold := by omega
      have hB2 : (hold - 1 == 0) = false := by rw [beq_eq_false_iff_ne]; omega
      clear hA
      rcases (show left = 0 ∨ left = 1 ∨ 1 < left by omega) with rfl | rfl | hl1
      · skip
        cases due
        · have T1 := h.hld (hold - 1)
          have M1 : Mv (fun q => q = g) w (w.setCell ⟨g, 8, none⟩ (.int .i64 (hold - 1))) := Mv.setCell w ⟨g, 8, none⟩ _
          have F1 := T1.blk.eleven
          have HT := Lib.hid (show Tp.tickS t ⟨false, hold, 0, count⟩ = (false, (⟨false, hold - 1, 0, count⟩ : Tp.St)) by unfold Tp.tickS Tp.downS; simp only [if_pos ht, if_neg hB]; simp <;> omega)
          clear hD h 
          go_enter Try.func13, Try.ntmps13
          go_wp2_with fail
          refine (DV.out).mono ?_
          rintro e _ ⟨rfl, rfl⟩
          go_wp2_with fail
          go_ret
          rw [HT.out]
          exact send_none rfl M1 T1
        · have T1 := h.hld (hold - 1)
          have M1 : Mv (fun q => q = g) w (w.setCell ⟨g, 8, none⟩ (.int .i64 (hold - 1))) := Mv.setCell w ⟨g, 8, none⟩ _
          have F1 := T1.blk.eleven
          have HT := Lib.hid (show Tp.tickS t ⟨true, hold, 0, count⟩ = (false, (⟨true, hold - 1, 0, count⟩ : Tp.St)) by unfold Tp.tickS Tp.downS; simp only [if_pos ht, if_neg hB]; simp <;> omega)
          clear hD h 
          go_enter Try.func13, Try.ntmps13
          go_wp2_with fail
          refine (DV.out).mono ?_
          rintro e _ ⟨rfl, rfl⟩
          go_wp2_with fail
          go_ret
          rw [HT.out]
          exact send_none rfl M1 T1
      · skip
        cases due
        · have T1 := h.hld (hold - 1)
          have M1 : Mv (fun q => q = g) w (w.setCell ⟨g, 8, none⟩ (.int .i64 (hold - 1))) := Mv.setCell w ⟨g, 8, none⟩ _
          have F1 := T1.blk.eleven
          have T2 := T1.lft (0)
          have F2 := T2.blk.eleven
          have T3 := T2.due true
          have F3 := T3.blk.eleven
          have M3 : Mv (fun q => q = g) w (((w.setCell ⟨g, 8, none⟩ (.int .i64 (hold - 1))).setCell ⟨g, 9, none⟩ (.int .i64 (0))).setCell ⟨g, 7, none⟩ (.bool true)) := (M1.trans (Mv.setCell (w.setCell ⟨g, 8, none⟩ (.int .i64 (hold - 1))) ⟨g, 9, none⟩ (.int .i64 (0))) (fun _ _ e => e)).trans (Mv.setCell ((w.setCell ⟨g, 8, none⟩ (.int .i64 (hold - 1))).setCell ⟨g, 9, none⟩ (.int .i64 (0))) ⟨g, 7, none⟩ (.bool true)) (fun _ _ e => e)
          have HT := Lib.hid (show Tp.tickS t ⟨false, hold, 1, count⟩ = (false, (⟨true, hold - 1, 0, count⟩ : Tp.St)) by unfold Tp.tickS Tp.downS; simp only [if_pos ht, if_neg hB]; simp <;> omega)
          clear hD h 
          go_enter Try.func13, Try.ntmps13
          go_wp2_with fail
          refine (DV.out).mono ?_
          rintro e _ ⟨rfl, rfl⟩
          go_wp2_with fail
          go_ret
          rw [HT.out]
          exact send_none rfl M3 T3
        · have T1 := h.hld (hold - 1)
          have M1 : Mv (fun q => q = g) w (w.setCell ⟨g, 8, none⟩ (.int .i64 (hold - 1))) := Mv.setCell w ⟨g, 8, none⟩ _
          have F1 := T1.blk.eleven
          have T2 := T1.lft (0)
          have F2 := T2.blk.eleven
          have T3 := T2.due true
          have F3 := T3.blk.eleven
          have M3 : Mv (fun q => q = g) w (((w.setCell ⟨g, 8, none⟩ (.int .i64 (hold - 1))).setCell ⟨g, 9, none⟩ (.int .i64 (0))).setCell ⟨g, 7, none⟩ (.bool true)) := (M1.trans (Mv.setCell (w.setCell ⟨g, 8, none⟩ (.int .i64 (hold - 1))) ⟨g, 9, none⟩ (.int .i64 (0))) (fun _ _ e => e)).trans (Mv.setCell ((w.setCell ⟨g, 8, none⟩ (.int .i64 (hold - 1))).setCell ⟨g, 9, none⟩ (.int .i64 (0))) ⟨g, 7, none⟩ (.bool true)) (fun _ _ e => e)
          have HT := Lib.hid (show Tp.tickS t ⟨true, hold, 1, count⟩ = (false, (⟨true, hold - 1, 0, count⟩ : Tp.St)) by unfold Tp.tickS Tp.downS; simp only [if_pos ht, if_neg hB]; simp <;> omega)
          clear hD h 
          go_enter Try.func13, Try.ntmps13
          go_wp2_with fail
          refine (DV.out).mono ?_
          rintro e _ ⟨rfl, rfl⟩
          go_wp2_with fail
          go_ret
          rw [HT.out]
          exact send_none rfl M3 T3
      · have hl2 : ¬ left = 1 := by omega
        have hl0 : (left - 1 == 0) = false := by rw [beq_eq_false_iff_ne]; omega
        have hlp : 0 < left := by omega
        cases due
        · have T1 := h.hld (hold - 1)
          have M1 : Mv (fun q => q = g) w (w.setCell ⟨g, 8, none⟩ (.int .i64 (hold - 1))) := Mv.setCell w ⟨g, 8, none⟩ _
          have F1 := T1.blk.eleven
          have T2 := T1.lft (left - 1)
          have F2 := T2.blk.eleven
          have T3 := T2.due false
          have F3 := T3.blk.eleven
          have M3 : Mv (fun q => q = g) w (((w.setCell ⟨g, 8, none⟩ (.int .i64 (hold - 1))).setCell ⟨g, 9, none⟩ (.int .i64 (left - 1))).setCell ⟨g, 7, none⟩ (.bool false)) := (M1.trans (Mv.setCell (w.setCell ⟨g, 8, none⟩ (.int .i64 (hold - 1))) ⟨g, 9, none⟩ (.int .i64 (left - 1))) (fun _ _ e => e)).trans (Mv.setCell ((w.setCell ⟨g, 8, none⟩ (.int .i64 (hold - 1))).setCell ⟨g, 9, none⟩ (.int .i64 (left - 1))) ⟨g, 7, none⟩ (.bool false)) (fun _ _ e => e)
          have HT := Lib.hid (show Tp.tickS t ⟨false, hold, left, count⟩ = (false, (⟨false, hold - 1, left - 1, count⟩ : Tp.St)) by unfold Tp.tickS Tp.downS; simp only [if_pos ht, if_neg hB]; simp [hlp, hl2] <;> omega)
          clear hD h 
          go_enter Try.func13, Try.ntmps13
          go_wp2_with fail
          refine (DV.out).mono ?_
          rintro e _ ⟨rfl, rfl⟩
          go_wp2_with fail
          go_ret
          rw [HT.out]
          exact send_none rfl M3 T3
        · have T1 := h.hld (hold - 1)
          have M1 : Mv (fun q => q = g) w (w.setCell ⟨g, 8, none⟩ (.int .i64 (hold - 1))) := Mv.setCell w ⟨g, 8, none⟩ _
          have F1 := T1.blk.eleven
          have T2 := T1.lft (left - 1)
          have F2 := T2.blk.eleven
          have T3 := T2.due true
          have F3 := T3.blk.eleven
          have M3 : Mv (fun q => q = g) w (((w.setCell ⟨g, 8, none⟩ (.int .i64 (hold - 1))).setCell ⟨g, 9, none⟩ (.int .i64 (left - 1))).setCell ⟨g, 7, none⟩ (.bool true)) := (M1.trans (Mv.setCell (w.setCell ⟨g, 8, none⟩ (.int .i64 (hold - 1))) ⟨g, 9, none⟩ (.int .i64 (left - 1))) (fun _ _ e => e)).trans (Mv.setCell ((w.setCell ⟨g, 8, none⟩ (.int .i64 (hold - 1))).setCell ⟨g, 9, none⟩ (.int .i64 (left - 1))) ⟨g, 7, none⟩ (.bool true)) (fun _ _ e => e)
          have HT := Lib.hid (show Tp.tickS t ⟨true, hold, left, count⟩ = (false, (⟨true, hold - 1, left - 1, count⟩ : Tp.St)) by unfold Tp.tickS Tp.downS; simp only [if_pos ht, if_neg hB]; simp [hlp, hl2] <;> omega)
          clear hD h 
          go_enter Try.func13, Try.ntmps13
          go_wp2_with fail
          refine (DV.out).mono ?_
          rintro e _ ⟨rfl, rfl⟩
          go_wp2_with fail
          go_ret
          rw [HT.out]
          exact send_none rfl M3 T3
  · rw [decide_eq_false ht] at DV
    have DV := Lib.hid DV
    have HT := Lib.hid (show Tp.tickS t s = (false, s) by unfold Tp.tickS; rw [if_neg ht])
    have H := Lib.hid h
    clear h hD
    go_enter Try.func13, Try.ntmps13
    go_wp2_with fail
    refine (DV.out).mono ?_
    rintro e _ ⟨rfl, rfl⟩
    go_wp2_with fail
    go_ret
    rw [HT.out]
    exact send_none rfl (Mv.refl _ _) H.out
end
end Go.Proofs.Ytbmocffnnlfnjaa
/-
  Walks: Has of layer 32.
  Conditions: none.
-/
namespace Go.Proofs.Ytbmocffnnlfnjaa
set_option linter.unusedVariables false
set_option linter.unusedSimpArgs false
open Go.RowKit Go.Sort
def Tp.hitB (x : Nat) (i j : Int) : Bool := decide ((Mp.ix x : Int) = i) && decide ((Mp.sb x : Int) = j)
def Tp.hasS (ws : List Nat) (i j : Int) : Bool := ws.any fun x => Tp.hitB x i j
theorem Tp.has_yes {ws : List Nat} {i j : Int} {k : Nat} (hk : k < ws.length) (h1 : (Mp.ix (ws.getD k 0) : Int) = i) (h2 : (Mp.sb (ws.getD k 0) : Int) = j) : Tp.hasS ws i j = true := by
  refine List.any_eq_true.2 ⟨ws.getD k 0, ?_, ?_⟩
  · rw [List.getD_eq_getElem?_getD, List.getElem?_eq_getElem hk]; exact List.getElem_mem hk
  · unfold Tp.hitB; rw [decide_eq_true h1, decide_eq_true h2]; rfl
theorem Tp.has_no {ws : List Nat} {i j : Int} (h : ∀ m, m < ws.length → Tp.hitB (ws.getD m 0) i j = false) : Tp.hasS ws i j = false := by
  refine List.any_eq_false.2 fun x hx => ?_
  obtain ⟨m, hm, e⟩ := List.mem_iff_getElem.1 hx
  have := h m hm
  rw [List.getD_eq_getElem?_getD, List.getElem?_eq_getElem hm] at this
  simp only [Option.getD_some, e] at this
  rw [this]; simp
set_option maxRecDepth 100000 in
set_option maxHeartbeats 2000000 in
theorem THas_any {w : World} {base g gd v : Nat} {t inh ev : Int} {ws : List Nat} {Aw : Option Addr} {cw : Nat} {s : Tp.St} (h : TpM w base g gd v t inh ev ws Aw cw s) (hwl : ∀ x ∈ ws, x < 4294967296) (i j : Int) :
    Calls Try.prog 16 #[.pointer (some ⟨g, 0, none⟩), .int .i64 i, .int .i64 j] w fun e w' => e = .returned (.bool (Tp.hasS ws i j)) ∧ w = w' := by
  have F0 : w.cell? ⟨g, 5, none⟩ = some (.slice Aw ws.length cw) := h.blk.cell 5
  have hle := h.words.rv.le
  have hcap := h.words.rv.cap
  have hR := OWt.rw h.words
  clear h
  go_enter Try.func16, Try.ntmps16
  go_wp2_with fail
  go_loopw [20] (fun q wr => ∃ k : Nat, k ≤ ws.length ∧ q = .int .i64 k ∧ w = wr ∧ ∀ m, m < k → Tp.hitB (ws.getD m 0) i j = false) (fun q _ => ws.length - (intOf q).toNat)
  case atStart => exact ⟨0, by omega, rfl, rfl, fun m hm => absurd hm (by omega)⟩
  case round =>
    obtain ⟨k, hk, rfl, rfl, hno⟩ := hrel
    by_cases hlt : k < ws.length
    · obtain ⟨b, o, rfl, hb, hc⟩ := hR.at_ hlt
      have hx : ws.getD k 0 < 4294967296 := hwl _ (by rw [List.getD_eq_getElem?_getD, List.getElem?_eq_getElem hlt]; exact List.getElem_mem hlt)
      have HY := Tp.has_yes (i := i) (j := j) hlt
      obtain ⟨x, hkx⟩ : ∃ x, ws.getD k 0 = x := ⟨_, rfl⟩
      rw [hkx] at hc hx HY
      have HKX := Lib.hid hkx
      have MS := Lib.hid (MSplit_any x hx w)
      replace HY := Lib.hid HY
      have HNO := Lib.hid hno
      clear hkx hno hR
      by_cases h1 : (Mp.ix x : Int) = i
      · by_cases h2 : (Mp.sb x : Int) = j
        · have HH := Lib.hid (HY.out h1 h2)
          have e1 : ((Mp.ix x : Int) == i) = true := by simpa using h1
          have e2 : ((Mp.sb x : Int) == j) = true := by simpa using h2
          clear h1 h2 HY HNO
          go_wp2_with fail
          refine (MS.out).mono ?_
          rintro e _ ⟨rfl, rfl⟩
          go_wp2_with fail
          go_ret
          refine ⟨?_, rfl⟩
          rw [HH.out]
          try rfl
        · have HH := Lib.hid (show Tp.hitB x i j = false by unfold Tp.hitB; rw [decide_eq_false h2]; simp)
          have e1 : ((Mp.ix x : Int) == i) = true := by simpa using h1
          have e2 : ((Mp.sb x : Int) == j) = false := by simpa using h2
          clear h1 h2 HY
          go_wp2_with fail
          refine (MS.out).mono ?_
          rintro e _ ⟨rfl, rfl⟩
          go_wp2_with fail
          go_roundw
          case rel => exact ⟨k + 1, by omega, by go_num, by first | rfl | trivial, fun m hm => by
            by_cases hmk : m < k
            · exact HNO.out m hmk
            · obtain rfl : m = k := by omega
              rw [HKX.out]; exact HH.out⟩
          case measure => simp [intOf] <;> omega
      · have HH := Lib.hid (show Tp.hitB x i j = false by unfold Tp.hitB; rw [decide_eq_false h1]; simp)
        have e1 : ((Mp.ix x : Int) == i) = false := by simpa using h1
        clear h1 HY
        go_wp2_with fail
        refine (MS.out).mono ?_
        rintro e _ ⟨rfl, rfl⟩
        go_wp2_with fail
        go_roundw
        case rel => exact ⟨k + 1, by omega, by go_num, by first | rfl | trivial, fun m hm => by
          by_cases hmk : m < k
          · exact HNO.out m hmk
          · obtain rfl : m = k := by omega
            rw [HKX.out]; exact HH.out⟩
        case measure => simp [intOf] <;> omega
    · obtain rfl : k = ws.length := by omega
      have HH := Lib.hid (Tp.has_no hno)
      clear hno
      go_wp2_with fail
      go_ret
      refine ⟨?_, rfl⟩
      rw [HH.out]
      try rfl
end Go.Proofs.Ytbmocffnnlfnjaa
/-
  Walks: put, Poke of layer 15.
  Conditions: none.
-/
namespace Go.Proofs.Ytbmocffnnlfnjaa
set_option linter.unusedVariables false
set_option linter.unusedSimpArgs false
open Go.RowKit
/-- A value that was poked, or not. -/
def PokeP {t : TypeId} (D : Dc.Dic) (x y : Int) (b : List UInt8) (w : World) (F : Nat → Prop) (g gv : Nat) (lA : Option Addr) (lc : Nat) (vA : Option Addr) (vc : Nat) (xs : List Value) (e : Ending) (w' : World) : Prop :=
  e = .returned (.int .u32 (Dc.mayS D.l true x y b)) ∧ Mv (fun q => q = gv) w w' ∧ ∃ vs', DRt t w' (fun q => F q ∨ (w.heap.size ≤ q ∧ q < w'.heap.size)) g gv lA lc vA vc xs vs' (Dc.pokeS D x y b)
theorem poke_no {t : TypeId} {D : Dc.Dic} {x y : Int} {b : List UInt8} {w w' : World} {F : Nat → Prop} {g gv lc vc : Nat} {lA vA : Option Addr} {xs vs : List Value} (h : DRt t w F g gv lA lc vA vc xs vs D) (hb : Below w.heap.size w w') {z : Int} (hz : z = Dc.mayS D.l true x y b) (hp : Dc.pokeS D x y b = D) :
    PokeP (t := t) D x y b w F g gv lA lc vA vc xs (.returned (.int .u32 z)) w' := by
  subst hz
  refine ⟨rfl, Mv.of_new hb _, vs, ?_⟩
  rw [hp]
  exact (h.below hb).mono fun _ _ hf => .inl hf
set_option maxRecDepth 100000 in
set_option maxHeartbeats 4000000 in
theorem dput_any {F : Nat → Prop} {w : World} {g gv lc vc : Nat} {la : Addr} {vA : Option Addr} {xs vs : List Value} {D : Dc.Dic} (x y : Int) {A' : Option Addr} {n' c' B : Nat} {b : List UInt8} (h : DRt 62 w F g gv (some la) lc vA vc xs vs D) (hb : RB w B A' n' c' b) (hB : B ≤ w.heap.size) (hn : n' < 140737488355328) : Calls Try.prog 29 #[.pointer (some ⟨g, 0, none⟩), .int .i64 x, .int .i64 y, .slice A' n' c', .bool true] w (PokeP (t := 62) D x y b w F g gv (some la) lc vA vc xs) := by
  have M := dmay_any true x y h hb hB
  have hz0 := mayP_snd D.l true x y b
  cases hf : Dc.findS D.l x y with
  | none =>
    have hp : Dc.pokeS D x y b = D := by unfold Dc.pokeS; rw [hf]
    have hv : (mayP D.l true x y b).2 ≠ 0 := by
      unfold mayP
      rw [hf]
      dsimp only
      split <;> decide
    generalize (mayP D.l true x y b).2 = z at *
    have ez : (z == 0) = false := beq_false_of_ne hv
    replace M := Lib.hid M
    have HP := Lib.hid hp; have HZ := Lib.hid hz0
    clear hp hz0 hv hf
    go_enter Try.func29, Try.ntmps29
    go_wp2_with fail
    refine (M.out).mono ?_
    rintro e w1 ⟨rfl, b1⟩
    go_wp2_with fail
    go_ret
    exact poke_no h b1 HZ.out HP.out
  | some k =>
    have hk := (Dc.find_some hf).2.1
    have hm : mayP D.l true x y b = ((k : Int), Ent.valS (D.l.getD k Dc.en0) b) := by unfold mayP; rw [hf]; simp
    rw [hm] at M hz0
    dsimp only at M hz0
    by_cases hv : Ent.valS (D.l.getD k Dc.en0) b = 0
    · have hp : Dc.pokeS D x y b = ⟨D.l, D.v.set k b⟩ := by unfold Dc.pokeS; rw [hf]; dsimp only; rw [if_pos hv]
      rw [hv] at M hz0
      replace M := Lib.hid M
      have HP := Lib.hid hp; have HZ := Lib.hid hz0
      clear hp hz0 hv hf hm
      obtain ⟨t0, t1⟩ := h.two
      obtain ⟨A, n, c, hA, hF, hg, hr, hcell, hfr⟩ := h.value hk
      subst hA
      have hcap : D.l.length ≤ vc ∧ vc ≤ 9223372036854775807 := ⟨h.own.rv.le, h.own.rv.cap⟩
      have HC := Lib.hid hcap
      have hgl := h.blk.lt
      have HM : Hid (∀ {w1 : World} {n c : Nat} {A : Option Addr}, Below w.heap.size w w1 → OB w1 w.heap.size A n c b → DRt 62 (w1.setCell ⟨gv, k, none⟩ (.slice A n c)) (fun q => F q ∨ (w.heap.size ≤ q ∧ q < w1.heap.size)) g gv (some la) lc (some ⟨gv, 0, none⟩) vc xs (vs.set k (.slice A n c)) ⟨D.l, D.v.set k b⟩) := Lib.hid fun h1 h2 => h.put hk h1 h2
      clear hcap hr h
      generalize hmm : D.l.length = m at *
      have HMM := Lib.hid hmm
      clear hmm
      go_enter Try.func29, Try.ntmps29
      go_wp2_with fail
      refine (M.out).mono ?_
      rintro e w1 ⟨rfl, b1⟩
      have OWN := Lib.hid (down_any w1.drew (hb.below (b1.drew.mono hB)) hn (Nat.le_trans hB b1.drew.size))
      have t1' : w1.cell? ⟨g, 1, none⟩ = _ := (b1.cell (p := ⟨g, 1, none⟩) hgl).trans t1
      have T1 := cell_regrown t1'
      have i0 : (0 : Int) ≤ (k : Int) := by omega
      have i1 : (k : Int) < (m : Int) := by omega
      clear t0 t1 t1'
      go_wp2_with fail
      refine region_laterL 8 (by kernel_rfl) ?_
      refine phase_laterL (by kernel_rfl) 3 (below_drew _) [0, 4, 5, 1, 2, 3] rfl (by kernel_rfl) ?_
      simp only [picks, nth]
      repeat (go_big_quiet_step (fail))
      refine wpQuiet_nil ?_
      refine phase_opL 6 2 rfl (by kernel_rfl) (by decide) ?_
      simp only [nth]
      go_wp2_with fail
      refine (OWN.out).mono ?_
      rintro e w3 ⟨A3, c3, rfl, o3, b3⟩
      have b3' : Below w1.heap.size w1 w3 := (below_drew w1).trans b3
      go_wp2_with fail
      refine behind_laterL b3' ?_
      refine phase_laterL (by kernel_rfl) 1 (Below.refl _ _) [7] rfl (by kernel_rfl) ?_
      simp only [picks, nth]
      repeat (go_big_quiet_step (fail))
      refine wpQuiet_nil ?_
      have d3 := below_step b1 b3' (Nat.le_refl _)
      have e3 := (d3.cell (p := ⟨gv, k, none⟩) hg).trans hcell
      have f3 := (d3.frozen (p := ⟨gv, k, none⟩) hg).trans hfr
      refine phase_last 0 rfl (by kernel_rfl) (by decide) (by kernel_rfl) ?_
      simp only [nth]
      go_wp2_with fail
      refine behind_last ?_
      go_wp2_with fail
      go_ret
      have o3' : OB w3 w.heap.size A3 n' c3 b := o3.more b1.drew.size
      have hput := HM.out (w1 := w3) d3 o3'
      have M2 : Mv (fun q => q = gv) w (w3.setCell ⟨gv, k, none⟩ (.slice A3 n' c3)) := (Mv.of_new d3 _).trans (Mv.setCell w3 ⟨gv, k, none⟩ (.slice A3 n' c3)) fun b _ h => h
      refine ⟨by rw [← HZ.out]; rfl, M2, vs.set k (.slice A3 n' c3), ?_⟩
      rw [HP.out]
      exact hput.mono fun q hq hf => by
        rcases hf with hf | hf
        · exact .inl hf
        · exact .inr ⟨hf.1, by simpa [World.setCell] using hf.2⟩
    · have hp : Dc.pokeS D x y b = D := by unfold Dc.pokeS; rw [hf]; dsimp only; rw [if_neg hv]
      generalize Ent.valS (D.l.getD k Dc.en0) b = z at *
      have ez : (z == 0) = false := beq_false_of_ne hv
      replace M := Lib.hid M
      have HP := Lib.hid hp; have HZ := Lib.hid hz0
      clear hp hz0 hv hf hm
      go_enter Try.func29, Try.ntmps29
      go_wp2_with fail
      refine (M.out).mono ?_
      rintro e w1 ⟨rfl, b1⟩
      go_wp2_with fail
      go_ret
      exact poke_no h b1 HZ.out HP.out
set_option maxRecDepth 100000 in
set_option maxHeartbeats 4000000 in
theorem dPoke_any {F : Nat → Prop} {w : World} {g gv lc vc : Nat} {la : Addr} {vA : Option Addr} {xs vs : List Value} {D : Dc.Dic} (x y : Int) {A' : Option Addr} {n' c' B : Nat} {b : List UInt8} (h : DRt 62 w F g gv (some la) lc vA vc xs vs D) (hb : RB w B A' n' c' b) (hB : B ≤ w.heap.size) (hn : n' < 140737488355328) : Calls Try.prog 17 #[.pointer (some ⟨g, 0, none⟩), .int .i64 x, .int .i64 y, .slice A' n' c'] w (PokeP (t := 62) D x y b w F g gv (some la) lc vA vc xs) := by
  have M := Lib.hid (dput_any x y h hb hB hn)
  clear h hb
  go_enter Try.func17, Try.ntmps17
  go_wp2_with fail
  refine (M.out).mono ?_
  rintro e w1 ⟨rfl, h1, vs', h2⟩
  go_wp2_with fail
  go_ret
  exact ⟨rfl, h1, vs', h2⟩
end Go.Proofs.Ytbmocffnnlfnjaa
/-
  Not of this seat.
  Conditions: none.
-/
