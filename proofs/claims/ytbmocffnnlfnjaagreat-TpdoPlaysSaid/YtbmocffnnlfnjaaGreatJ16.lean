/-
  Texts joined: TpdTick, TpdHas, DicPut, DicRFind.
  Conditions: none.
-/
import Derived.Test.YtbmocffnnlfnjaaGreatJ04
import Derived.Test.YtbmocffnnlfnjaaGreatJ06
import Derived.Test.YtbmocffnnlfnjaaGreatJ10
import Derived.Test.YtbmocffnnlfnjaaGreatJ12
import Derived.Test.YtbmocffnnlfnjaaGreatJ15
/-
  Walks: Tick of layer 32.
  Conditions: none.
-/
namespace Go.Proofs.YtbmocffnnlfnjaaGreat
set_option linter.unusedVariables false
set_option linter.unusedSimpArgs false
open Go.RowKit Go.Sort
section
variable {F : Nat → Prop} {w : World} {base g gd v : Nat} {t inh ev : Int} {ws : List Nat} {Aw : Option Addr} {cw : Nat} {s : Tp.St} {gv lc vc : Nat} {la : Addr} {vA : Option Addr} {xs vs : List Value} {D : Dc.Dic}
theorem TpM.hld (h : TpM w base g gd v t inh ev ws Aw cw s) (b : Int) : TpM (w.setCell ⟨g, 8, none⟩ (.int .i64 b)) base g gd v t inh ev ws Aw cw { s with hold := b } := ⟨h.gb, h.blk.set_ 8 (.int .i64 b), OV.off h.words h.blk (by decide)⟩
theorem TpM.lft (h : TpM w base g gd v t inh ev ws Aw cw s) (b : Int) : TpM (w.setCell ⟨g, 9, none⟩ (.int .i64 b)) base g gd v t inh ev ws Aw cw { s with left := b } := ⟨h.gb, h.blk.set_ 9 (.int .i64 b), OV.off h.words h.blk (by decide)⟩
set_option maxRecDepth 100000 in
set_option maxHeartbeats 4000000 in
theorem TTick_any (h : TpM w base g gd v t inh ev ws Aw cw s) (hh : 0 ≤ s.hold ∧ s.hold ≤ 65535) (hl : 0 ≤ s.left ∧ s.left ≤ 65535) (hD : DRt 66 w F gd gv (some la) lc vA vc xs vs D) (hF : ∀ q, F q → q ≠ g) (hd : ∀ e ∈ D.l, e.dflt.length ≤ 1000000) (hv : ∀ v ∈ D.v, v.length ≤ 1000000) (hwl : ∀ x ∈ ws, x < 4294967296) :
    Calls Tryz.prog 15 #[.pointer (some ⟨g, 0, none⟩)] w (SendP (outT v (Tp.bytesS D v ws) (Tp.tickS t s)) base g gd v t inh ev ws Aw cw (stT inh ev (Tp.tickS t s)) w) := by
  have F0 := h.blk.eleven
  have DV := driven_any h
  by_cases ht : 254 ≤ t
  · rw [decide_eq_true ht] at DV
    have DV := Lib.hid DV
    obtain ⟨due, hold, left, count⟩ := s
    dsimp only at hh hl F0
    obtain ⟨hh1, hh2⟩ := hh
    obtain ⟨hl1', hl2'⟩ := hl
    by_cases hA : hold ≤ 1
    · skip
      rcases (show left = 0 ∨ left = 1 ∨ 1 < left by omega) with rfl | rfl | hl1
      · skip
        cases due
        · have T1 := h.hld (0)
          have M1 : Mv (fun q => q = g) w (w.setCell ⟨g, 8, none⟩ (.int .i64 (0))) := Mv.setCell w ⟨g, 8, none⟩ _
          have F1 := T1.blk.eleven
          have HT := Lib.hid (show Tp.tickS t ⟨false, hold, 0, count⟩ = (false, (⟨false, 0, 0, count⟩ : Tp.St)) by unfold Tp.tickS Tp.downS; simp only [if_pos ht, if_pos hA]; simp)
          clear hD h 
          go_enter Tryz.func15, Tryz.ntmps15
          go_wp2_with fail
          refine (DV.out).mono ?_
          rintro e _ ⟨rfl, rfl⟩
          go_wp2_with fail
          go_ret
          rw [HT.out]
          exact send_none rfl M1 T1
        · have T1 := h.hld (0)
          have M1 : Mv (fun q => q = g) w (w.setCell ⟨g, 8, none⟩ (.int .i64 (0))) := Mv.setCell w ⟨g, 8, none⟩ _
          have F1 := T1.blk.eleven
          have HT := Lib.hid (show Tp.tickS t ⟨true, hold, 0, count⟩ = (true, (⟨true, 0, 0, count⟩ : Tp.St)) by unfold Tp.tickS Tp.downS; simp only [if_pos ht, if_pos hA]; simp)
          have SD := Lib.hid (Send_any T1 (hD.mv M1 fun q _ hf => hF q hf) hF hd hv hwl)
          clear hD h 
          go_enter Tryz.func15, Tryz.ntmps15
          go_wp2_with fail
          refine (DV.out).mono ?_
          rintro e _ ⟨rfl, rfl⟩
          go_wp2_with fail
          refine (SD.out).mono ?_
          rintro e w2 ⟨A, c, rfl, o, M, T4⟩
          go_wp2_with fail
          go_ret
          rw [HT.out]
          exact ⟨A, c, rfl, OS.more o M1.size fun f cs ⟨A, n, c, h1, h2⟩ => ⟨A, n, c, h1, h2.more M1.size⟩, M1.trans M fun _ _ e => e, T4⟩
      · skip
        cases due
        · have T1 := h.hld (0)
          have M1 : Mv (fun q => q = g) w (w.setCell ⟨g, 8, none⟩ (.int .i64 (0))) := Mv.setCell w ⟨g, 8, none⟩ _
          have F1 := T1.blk.eleven
          have T2 := T1.lft (0)
          have F2 := T2.blk.eleven
          have T3 := T2.due true
          have F3 := T3.blk.eleven
          have M3 : Mv (fun q => q = g) w (((w.setCell ⟨g, 8, none⟩ (.int .i64 (0))).setCell ⟨g, 9, none⟩ (.int .i64 (0))).setCell ⟨g, 7, none⟩ (.bool true)) := (M1.trans (Mv.setCell (w.setCell ⟨g, 8, none⟩ (.int .i64 (0))) ⟨g, 9, none⟩ (.int .i64 (0))) (fun _ _ e => e)).trans (Mv.setCell ((w.setCell ⟨g, 8, none⟩ (.int .i64 (0))).setCell ⟨g, 9, none⟩ (.int .i64 (0))) ⟨g, 7, none⟩ (.bool true)) (fun _ _ e => e)
          have HT := Lib.hid (show Tp.tickS t ⟨false, hold, 1, count⟩ = (true, (⟨true, 0, 0, count⟩ : Tp.St)) by unfold Tp.tickS Tp.downS; simp only [if_pos ht, if_pos hA]; simp)
          have SD := Lib.hid (Send_any T3 (hD.mv M3 fun q _ hf => hF q hf) hF hd hv hwl)
          clear hD h 
          go_enter Tryz.func15, Tryz.ntmps15
          go_wp2_with fail
          refine (DV.out).mono ?_
          rintro e _ ⟨rfl, rfl⟩
          go_wp2_with fail
          refine (SD.out).mono ?_
          rintro e w2 ⟨A, c, rfl, o, M, T4⟩
          go_wp2_with fail
          go_ret
          rw [HT.out]
          exact ⟨A, c, rfl, OS.more o M3.size fun f cs ⟨A, n, c, h1, h2⟩ => ⟨A, n, c, h1, h2.more M3.size⟩, M3.trans M fun _ _ e => e, T4⟩
        · have T1 := h.hld (0)
          have M1 : Mv (fun q => q = g) w (w.setCell ⟨g, 8, none⟩ (.int .i64 (0))) := Mv.setCell w ⟨g, 8, none⟩ _
          have F1 := T1.blk.eleven
          have T2 := T1.lft (0)
          have F2 := T2.blk.eleven
          have T3 := T2.due true
          have F3 := T3.blk.eleven
          have M3 : Mv (fun q => q = g) w (((w.setCell ⟨g, 8, none⟩ (.int .i64 (0))).setCell ⟨g, 9, none⟩ (.int .i64 (0))).setCell ⟨g, 7, none⟩ (.bool true)) := (M1.trans (Mv.setCell (w.setCell ⟨g, 8, none⟩ (.int .i64 (0))) ⟨g, 9, none⟩ (.int .i64 (0))) (fun _ _ e => e)).trans (Mv.setCell ((w.setCell ⟨g, 8, none⟩ (.int .i64 (0))).setCell ⟨g, 9, none⟩ (.int .i64 (0))) ⟨g, 7, none⟩ (.bool true)) (fun _ _ e => e)
          have HT := Lib.hid (show Tp.tickS t ⟨true, hold, 1, count⟩ = (true, (⟨true, 0, 0, count⟩ : Tp.St)) by unfold Tp.tickS Tp.downS; simp only [if_pos ht, if_pos hA]; simp)
          have SD := Lib.hid (Send_any T3 (hD.mv M3 fun q _ hf => hF q hf) hF hd hv hwl)
          clear hD h 
          go_enter Tryz.func15, Tryz.ntmps15
          go_wp2_with fail
          refine (DV.out).mono ?_
          rintro e _ ⟨rfl, rfl⟩
          go_wp2_with fail
          refine (SD.out).mono ?_
          rintro e w2 ⟨A, c, rfl, o, M, T4⟩
          go_wp2_with fail
          go_ret
          rw [HT.out]
          exact ⟨A, c, rfl, OS.more o M3.size fun f cs ⟨A, n, c, h1, h2⟩ => ⟨A, n, c, h1, h2.more M3.size⟩, M3.trans M fun _ _ e => e, T4⟩
      · have hl2 : ¬ left = 1 := by omega
        have hl0 : (left - 1 == 0) = false := by rw [beq_eq_false_iff_ne]; omega
        have hlp : 0 < left := by omega
        cases due
        · have T1 := h.hld (0)
          have M1 : Mv (fun q => q = g) w (w.setCell ⟨g, 8, none⟩ (.int .i64 (0))) := Mv.setCell w ⟨g, 8, none⟩ _
          have F1 := T1.blk.eleven
          have T2 := T1.lft (left - 1)
          have F2 := T2.blk.eleven
          have T3 := T2.due false
          have F3 := T3.blk.eleven
          have M3 : Mv (fun q => q = g) w (((w.setCell ⟨g, 8, none⟩ (.int .i64 (0))).setCell ⟨g, 9, none⟩ (.int .i64 (left - 1))).setCell ⟨g, 7, none⟩ (.bool false)) := (M1.trans (Mv.setCell (w.setCell ⟨g, 8, none⟩ (.int .i64 (0))) ⟨g, 9, none⟩ (.int .i64 (left - 1))) (fun _ _ e => e)).trans (Mv.setCell ((w.setCell ⟨g, 8, none⟩ (.int .i64 (0))).setCell ⟨g, 9, none⟩ (.int .i64 (left - 1))) ⟨g, 7, none⟩ (.bool false)) (fun _ _ e => e)
          have HT := Lib.hid (show Tp.tickS t ⟨false, hold, left, count⟩ = (false, (⟨false, 0, left - 1, count⟩ : Tp.St)) by unfold Tp.tickS Tp.downS; simp only [if_pos ht, if_pos hA]; simp [hlp, hl2])
          clear hD h 
          go_enter Tryz.func15, Tryz.ntmps15
          go_wp2_with fail
          refine (DV.out).mono ?_
          rintro e _ ⟨rfl, rfl⟩
          go_wp2_with fail
          go_ret
          rw [HT.out]
          exact send_none rfl M3 T3
        · have T1 := h.hld (0)
          have M1 : Mv (fun q => q = g) w (w.setCell ⟨g, 8, none⟩ (.int .i64 (0))) := Mv.setCell w ⟨g, 8, none⟩ _
          have F1 := T1.blk.eleven
          have T2 := T1.lft (left - 1)
          have F2 := T2.blk.eleven
          have T3 := T2.due true
          have F3 := T3.blk.eleven
          have M3 : Mv (fun q => q = g) w (((w.setCell ⟨g, 8, none⟩ (.int .i64 (0))).setCell ⟨g, 9, none⟩ (.int .i64 (left - 1))).setCell ⟨g, 7, none⟩ (.bool true)) := (M1.trans (Mv.setCell (w.setCell ⟨g, 8, none⟩ (.int .i64 (0))) ⟨g, 9, none⟩ (.int .i64 (left - 1))) (fun _ _ e => e)).trans (Mv.setCell ((w.setCell ⟨g, 8, none⟩ (.int .i64 (0))).setCell ⟨g, 9, none⟩ (.int .i64 (left - 1))) ⟨g, 7, none⟩ (.bool true)) (fun _ _ e => e)
          have HT := Lib.hid (show Tp.tickS t ⟨true, hold, left, count⟩ = (true, (⟨true, 0, left - 1, count⟩ : Tp.St)) by unfold Tp.tickS Tp.downS; simp only [if_pos ht, if_pos hA]; simp [hlp, hl2])
          have SD := Lib.hid (Send_any T3 (hD.mv M3 fun q _ hf => hF q hf) hF hd hv hwl)
          clear hD h 
          go_enter Tryz.func15, Tryz.ntmps15
          go_wp2_with fail
          refine (DV.out).mono ?_
          rintro e _ ⟨rfl, rfl⟩
          go_wp2_with fail
          refine (SD.out).mono ?_
          rintro e w2 ⟨A, c, rfl, o, M, T4⟩
          go_wp2_with fail
          go_ret
          rw [HT.out]
          exact ⟨A, c, rfl, OS.more o M3.size fun f cs ⟨A, n, c, h1, h2⟩ => ⟨A, n, c, h1, h2.more M3.size⟩, M3.trans M fun _ _ e => e, T4⟩
    · have hB := hA
      have hB1 : 1 < hold := by omega
      have hB2 : (hold - 1 == 0) = false := by rw [beq_eq_false_iff_ne]; omega
      clear hA
      rcases (show left = 0 ∨ left = 1 ∨ 1 < left by omega) with rfl | rfl | hl1
      · skip
        cases due
        · have T1 := h.hld (hold - 1)
          have M1 : Mv (fun q => q = g) w (w.setCell ⟨g, 8, none⟩ (.int .i64 (hold - 1))) := Mv.setCell w ⟨g, 8, none⟩ _
          have F1 := T1.blk.eleven
          have HT := Lib.hid (show Tp.tickS t ⟨false, hold, 0, count⟩ = (false, (⟨false, hold - 1, 0, count⟩ : Tp.St)) by unfold Tp.tickS Tp.downS; simp only [if_pos ht, if_neg hB]; simp <;> omega)
          clear hD h 
          go_enter Tryz.func15, Tryz.ntmps15
          go_wp2_with fail
          refine (DV.out).mono ?_
          rintro e _ ⟨rfl, rfl⟩
          go_wp2_with fail
          go_ret
          rw [HT.out]
          exact send_none rfl M1 T1
        · have T1 := h.hld (hold - 1)
          have M1 : Mv (fun q => q = g) w (w.setCell ⟨g, 8, none⟩ (.int .i64 (hold - 1))) := Mv.setCell w ⟨g, 8, none⟩ _
          have F1 := T1.blk.eleven
          have HT := Lib.hid (show Tp.tickS t ⟨true, hold, 0, count⟩ = (false, (⟨true, hold - 1, 0, count⟩ : Tp.St)) by unfold Tp.tickS Tp.downS; simp only [if_pos ht, if_neg hB]; simp <;> omega)
          clear hD h 
          go_enter Tryz.func15, Tryz.ntmps15
          go_wp2_with fail
          refine (DV.out).mono ?_
          rintro e _ ⟨rfl, rfl⟩
          go_wp2_with fail
          go_ret
          rw [HT.out]
          exact send_none rfl M1 T1
      · skip
        cases due
        · have T1 := h.hld (hold - 1)
          have M1 : Mv (fun q => q = g) w (w.setCell ⟨g, 8, none⟩ (.int .i64 (hold - 1))) := Mv.setCell w ⟨g, 8, none⟩ _
          have F1 := T1.blk.eleven
          have T2 := T1.lft (0)
          have F2 := T2.blk.eleven
          have T3 := T2.due true
          have F3 := T3.blk.eleven
          have M3 : Mv (fun q => q = g) w (((w.setCell ⟨g, 8, none⟩ (.int .i64 (hold - 1))).setCell ⟨g, 9, none⟩ (.int .i64 (0))).setCell ⟨g, 7, none⟩ (.bool true)) := (M1.trans (Mv.setCell (w.setCell ⟨g, 8, none⟩ (.int .i64 (hold - 1))) ⟨g, 9, none⟩ (.int .i64 (0))) (fun _ _ e => e)).trans (Mv.setCell ((w.setCell ⟨g, 8, none⟩ (.int .i64 (hold - 1))).setCell ⟨g, 9, none⟩ (.int .i64 (0))) ⟨g, 7, none⟩ (.bool true)) (fun _ _ e => e)
          have HT := Lib.hid (show Tp.tickS t ⟨false, hold, 1, count⟩ = (false, (⟨true, hold - 1, 0, count⟩ : Tp.St)) by unfold Tp.tickS Tp.downS; simp only [if_pos ht, if_neg hB]; simp <;> omega)
          clear hD h 
          go_enter Tryz.func15, Tryz.ntmps15
          go_wp2_with fail
          refine (DV.out).mono ?_
          rintro e _ ⟨rfl, rfl⟩
          go_wp2_with fail
          go_ret
          rw [HT.out]
          exact send_none rfl M3 T3
        · have T1 := h.hld (hold - 1)
          have M1 : Mv (fun q => q = g) w (w.setCell ⟨g, 8, none⟩ (.int .i64 (hold - 1))) := Mv.setCell w ⟨g, 8, none⟩ _
          have F1 := T1.blk.eleven
          have T2 := T1.lft (0)
          have F2 := T2.blk.eleven
          have T3 := T2.due true
          have F3 := T3.blk.eleven
          have M3 : Mv (fun q => q = g) w (((w.setCell ⟨g, 8, none⟩ (.int .i64 (hold - 1))).setCell ⟨g, 9, none⟩ (.int .i64 (0))).setCell ⟨g, 7, none⟩ (.bool true)) := (M1.trans (Mv.setCell (w.setCell ⟨g, 8, none⟩ (.int .i64 (hold - 1))) ⟨g, 9, none⟩ (.int .i64 (0))) (fun _ _ e => e)).trans (Mv.setCell ((w.setCell ⟨g, 8, none⟩ (.int .i64 (hold - 1))).setCell ⟨g, 9, none⟩ (.int .i64 (0))) ⟨g, 7, none⟩ (.bool true)) (fun _ _ e => e)
          have HT := Lib.hid (show Tp.tickS t ⟨true, hold, 1, count⟩ = (false, (⟨true, hold - 1, 0, count⟩ : Tp.St)) by unfold Tp.tickS Tp.downS; simp only [if_pos ht, if_neg hB]; simp <;> omega)
          clear hD h 
          go_enter Tryz.func15, Tryz.ntmps15
          go_wp2_with fail
          refine (DV.out).mono ?_
          rintro e _ ⟨rfl, rfl⟩
          go_wp2_with fail
          go_ret
          rw [HT.out]
          exact send_none rfl M3 T3
      · have hl2 : ¬ left = 1 := by omega
        have hl0 : (left - 1 == 0) = false := by rw [beq_eq_false_iff_ne]; omega
        have hlp : 0 < left := by omega
        cases due
        · have T1 := h.hld (hold - 1)
          have M1 : Mv (fun q => q = g) w (w.setCell ⟨g, 8, none⟩ (.int .i64 (hold - 1))) := Mv.setCell w ⟨g, 8, none⟩ _
          have F1 := T1.blk.eleven
          have T2 := T1.lft (left - 1)
          have F2 := T2.blk.eleven
          have T3 := T2.due false
          have F3 := T3.blk.eleven
          have M3 : Mv (fun q => q = g) w (((w.setCell ⟨g, 8, none⟩ (.int .i64 (hold - 1))).setCell ⟨g, 9, none⟩ (.int .i64 (left - 1))).setCell ⟨g, 7, none⟩ (.bool false)) := (M1.trans (Mv.setCell (w.setCell ⟨g, 8, none⟩ (.int .i64 (hold - 1))) ⟨g, 9, none⟩ (.int .i64 (left - 1))) (fun _ _ e => e)).trans (Mv.setCell ((w.setCell ⟨g, 8, none⟩ (.int .i64 (hold - 1))).setCell ⟨g, 9, none⟩ (.int .i64 (left - 1))) ⟨g, 7, none⟩ (.bool false)) (fun _ _ e => e)
          have HT := Lib.hid (show Tp.tickS t ⟨false, hold, left, count⟩ = (false, (⟨false, hold - 1, left - 1, count⟩ : Tp.St)) by unfold Tp.tickS Tp.downS; simp only [if_pos ht, if_neg hB]; simp [hlp, hl2] <;> omega)
          clear hD h 
          go_enter Tryz.func15, Tryz.ntmps15
          go_wp2_with fail
          refine (DV.out).mono ?_
          rintro e _ ⟨rfl, rfl⟩
          go_wp2_with fail
          go_ret
          rw [HT.out]
          exact send_none rfl M3 T3
        · have T1 := h.hld (hold - 1)
          have M1 : Mv (fun q => q = g) w (w.setCell ⟨g, 8, none⟩ (.int .i64 (hold - 1))) := Mv.setCell w ⟨g, 8, none⟩ _
          have F1 := T1.blk.eleven
          have T2 := T1.lft (left - 1)
          have F2 := T2.blk.eleven
          have T3 := T2.due true
          have F3 := T3.blk.eleven
          have M3 : Mv (fun q => q = g) w (((w.setCell ⟨g, 8, none⟩ (.int .i64 (hold - 1))).setCell ⟨g, 9, none⟩ (.int .i64 (left - 1))).setCell ⟨g, 7, none⟩ (.bool true)) := (M1.trans (Mv.setCell (w.setCell ⟨g, 8, none⟩ (.int .i64 (hold - 1))) ⟨g, 9, none⟩ (.int .i64 (left - 1))) (fun _ _ e => e)).trans (Mv.setCell ((w.setCell ⟨g, 8, none⟩ (.int .i64 (hold - 1))).setCell ⟨g, 9, none⟩ (.int .i64 (left - 1))) ⟨g, 7, none⟩ (.bool true)) (fun _ _ e => e)
          have HT := Lib.hid (show Tp.tickS t ⟨true, hold, left, count⟩ = (false, (⟨true, hold - 1, left - 1, count⟩ : Tp.St)) by unfold Tp.tickS Tp.downS; simp only [if_pos ht, if_neg hB]; simp [hlp, hl2] <;> omega)
          clear hD h 
          go_enter Tryz.func15, Tryz.ntmps15
          go_wp2_with fail
          refine (DV.out).mono ?_
          rintro e _ ⟨rfl, rfl⟩
          go_wp2_with fail
          go_ret
          rw [HT.out]
          exact send_none rfl M3 T3
  · rw [decide_eq_false ht] at DV
    have DV := Lib.hid DV
    have HT := Lib.hid (show Tp.tickS t s = (false, s) by unfold Tp.tickS; rw [if_neg ht])
    have H := Lib.hid h
    clear h hD
    go_enter Tryz.func15, Tryz.ntmps15
    go_wp2_with fail
    refine (DV.out).mono ?_
    rintro e _ ⟨rfl, rfl⟩
    go_wp2_with fail
    go_ret
    rw [HT.out]
    exact send_none rfl (Mv.refl _ _) H.out
end
end Go.Proofs.YtbmocffnnlfnjaaGreat
/-
  Walks: Has of layer 32.
  Conditions: none.
-/
namespace Go.Proofs.YtbmocffnnlfnjaaGreat
set_option linter.unusedVariables false
set_option linter.unusedSimpArgs false
open Go.RowKit Go.Sort
def Tp.hitB (x : Nat) (i j : Int) : Bool := decide ((Mp.ix x : Int) = i) && decide ((Mp.sb x : Int) = j)
def Tp.hasS (ws : List Nat) (i j : Int) : Bool := ws.any fun x => Tp.hitB x i j
theorem Tp.has_yes {ws : List Nat} {i j : Int} {k : Nat} (hk : k < ws.length) (h1 : (Mp.ix (ws.getD k 0) : Int) = i) (h2 : (Mp.sb (ws.getD k 0) : Int) = j) : Tp.hasS ws i j = true := by
  refine List.any_eq_true.2 ⟨ws.getD k 0, ?_, ?_⟩
  · rw [List.getD_eq_getElem?_getD, List.getElem?_eq_getElem hk]; exact List.getElem_mem hk
  · unfold Tp.hitB; rw [decide_eq_true h1, decide_eq_true h2]; rfl
theorem Tp.has_no {ws : List Nat} {i j : Int} (h : ∀ m, m < ws.length → Tp.hitB (ws.getD m 0) i j = false) : Tp.hasS ws i j = false := by
  refine List.any_eq_false.2 fun x hx => ?_
  obtain ⟨m, hm, e⟩ := List.mem_iff_getElem.1 hx
  have := h m hm
  rw [List.getD_eq_getElem?_getD, List.getElem?_eq_getElem hm] at this
  simp only [Option.getD_some, e] at this
  rw [this]; simp
set_option maxRecDepth 100000 in
set_option maxHeartbeats 2000000 in
theorem THas_any {w : World} {base g gd v : Nat} {t inh ev : Int} {ws : List Nat} {Aw : Option Addr} {cw : Nat} {s : Tp.St} (h : TpM w base g gd v t inh ev ws Aw cw s) (hwl : ∀ x ∈ ws, x < 4294967296) (i j : Int) :
    Calls Tryz.prog 23 #[.pointer (some ⟨g, 0, none⟩), .int .i64 i, .int .i64 j] w fun e w' => e = .returned (.bool (Tp.hasS ws i j)) ∧ w = w' := by
  have F0 : w.cell? ⟨g, 5, none⟩ = some (.slice Aw ws.length cw) := h.blk.cell 5
  have hle := h.words.rv.le
  have hcap := h.words.rv.cap
  have hR := OWt.rw h.words
  clear h
  go_enter Tryz.func23, Tryz.ntmps23
  go_wp2_with fail
  go_loopw [20] (fun q wr => ∃ k : Nat, k ≤ ws.length ∧ q = .int .i64 k ∧ w = wr ∧ ∀ m, m < k → Tp.hitB (ws.getD m 0) i j = false) (fun q _ => ws.length - (intOf q).toNat)
  case atStart => exact ⟨0, by omega, rfl, rfl, fun m hm => absurd hm (by omega)⟩
  case round =>
    obtain ⟨k, hk, rfl, rfl, hno⟩ := hrel
    by_cases hlt : k < ws.length
    · obtain ⟨b, o, rfl, hb, hc⟩ := hR.at_ hlt
      have hx : ws.getD k 0 < 4294967296 := hwl _ (by rw [List.getD_eq_getElem?_getD, List.getElem?_eq_getElem hlt]; exact List.getElem_mem hlt)
      have HY := Tp.has_yes (i := i) (j := j) hlt
      obtain ⟨x, hkx⟩ : ∃ x, ws.getD k 0 = x := ⟨_, rfl⟩
      rw [hkx] at hc hx HY
      have HKX := Lib.hid hkx
      have MS := Lib.hid (MSplit_any x hx w)
      replace HY := Lib.hid HY
      have HNO := Lib.hid hno
      clear hkx hno hR
      by_cases h1 : (Mp.ix x : Int) = i
      · by_cases h2 : (Mp.sb x : Int) = j
        · have HH := Lib.hid (HY.out h1 h2)
          have e1 : ((Mp.ix x : Int) == i) = true := by simpa using h1
          have e2 : ((Mp.sb x : Int) == j) = true := by simpa using h2
          clear h1 h2 HY HNO
          go_wp2_with fail
          refine (MS.out).mono ?_
          rintro e _ ⟨rfl, rfl⟩
          go_wp2_with fail
          go_ret
          refine ⟨?_, rfl⟩
          rw [HH.out]
          try rfl
        · have HH := Lib.hid (show Tp.hitB x i j = false by unfold Tp.hitB; rw [decide_eq_false h2]; simp)
          have e1 : ((Mp.ix x : Int) == i) = true := by simpa using h1
          have e2 : ((Mp.sb x : Int) == j) = false := by simpa using h2
          clear h1 h2 HY
          go_wp2_with fail
          refine (MS.out).mono ?_
          rintro e _ ⟨rfl, rfl⟩
          go_wp2_with fail
          go_roundw
          case rel => exact ⟨k + 1, by omega, by go_num, by first | rfl | trivial, fun m hm => by
            by_cases hmk : m < k
            · exact HNO.out m hmk
            · obtain rfl : m = k := by omega
              rw [HKX.out]; exact HH.out⟩
          case measure => simp [intOf] <;> omega
      · have HH := Lib.hid (show Tp.hitB x i j = false by unfold Tp.hitB; rw [decide_eq_false h1]; simp)
        have e1 : ((Mp.ix x : Int) == i) = false := by simpa using h1
        clear h1 HY
        go_wp2_with fail
        refine (MS.out).mono ?_
        rintro e _ ⟨rfl, rfl⟩
        go_wp2_with fail
        go_roundw
        case rel => exact ⟨k + 1, by omega, by go_num, by first | rfl | trivial, fun m hm => by
          by_cases hmk : m < k
          · exact HNO.out m hmk
          · obtain rfl : m = k := by omega
            rw [HKX.out]; exact HH.out⟩
        case measure => simp [intOf] <;> omega
    · obtain rfl : k = ws.length := by omega
      have HH := Lib.hid (Tp.has_no hno)
      clear hno
      go_wp2_with fail
      go_ret
      refine ⟨?_, rfl⟩
      rw [HH.out]
      try rfl
end Go.Proofs.YtbmocffnnlfnjaaGreat
/-
  Walks: put, Poke of layer 15.
  Conditions: none.
-/
namespace Go.Proofs.YtbmocffnnlfnjaaGreat
set_option linter.unusedVariables false
set_option linter.unusedSimpArgs false
open Go.RowKit
/-- A value that was poked, or not. -/
def PokeP {t : TypeId} (D : Dc.Dic) (x y : Int) (b : List UInt8) (w : World) (F : Nat → Prop) (g gv : Nat) (lA : Option Addr) (lc : Nat) (vA : Option Addr) (vc : Nat) (xs : List Value) (e : Ending) (w' : World) : Prop :=
  e = .returned (.int .u32 (Dc.mayS D.l true x y b)) ∧ Mv (fun q => q = gv) w w' ∧ ∃ vs', DRt t w' (fun q => F q ∨ (w.heap.size ≤ q ∧ q < w'.heap.size)) g gv lA lc vA vc xs vs' (Dc.pokeS D x y b)
theorem poke_no {t : TypeId} {D : Dc.Dic} {x y : Int} {b : List UInt8} {w w' : World} {F : Nat → Prop} {g gv lc vc : Nat} {lA vA : Option Addr} {xs vs : List Value} (h : DRt t w F g gv lA lc vA vc xs vs D) (hb : Below w.heap.size w w') {z : Int} (hz : z = Dc.mayS D.l true x y b) (hp : Dc.pokeS D x y b = D) :
    PokeP (t := t) D x y b w F g gv lA lc vA vc xs (.returned (.int .u32 z)) w' := by
  subst hz
  refine ⟨rfl, Mv.of_new hb _, vs, ?_⟩
  rw [hp]
  exact (h.below hb).mono fun _ _ hf => .inl hf
set_option maxRecDepth 100000 in
set_option maxHeartbeats 4000000 in
theorem dput_any {F : Nat → Prop} {w : World} {g gv lc vc : Nat} {la : Addr} {vA : Option Addr} {xs vs : List Value} {D : Dc.Dic} (x y : Int) {A' : Option Addr} {n' c' B : Nat} {b : List UInt8} (h : DRt 66 w F g gv (some la) lc vA vc xs vs D) (hb : RB w B A' n' c' b) (hB : B ≤ w.heap.size) (hn : n' < 140737488355328) : Calls Tryz.prog 47 #[.pointer (some ⟨g, 0, none⟩), .int .i64 x, .int .i64 y, .slice A' n' c', .bool true] w (PokeP (t := 66) D x y b w F g gv (some la) lc vA vc xs) := by
  have M := dmay_any true x y h hb hB
  have hz0 := mayP_snd D.l true x y b
  cases hf : Dc.findS D.l x y with
  | none =>
    have hp : Dc.pokeS D x y b = D := by unfold Dc.pokeS; rw [hf]
    have hv : (mayP D.l true x y b).2 ≠ 0 := by
      unfold mayP
      rw [hf]
      dsimp only
      split <;> decide
    generalize (mayP D.l true x y b).2 = z at *
    have ez : (z == 0) = false := beq_false_of_ne hv
    replace M := Lib.hid M
    have HP := Lib.hid hp; have HZ := Lib.hid hz0
    clear hp hz0 hv hf
    go_enter Tryz.func47, Tryz.ntmps47
    go_wp2_with fail
    refine (M.out).mono ?_
    rintro e w1 ⟨rfl, b1⟩
    go_wp2_with fail
    go_ret
    exact poke_no h b1 HZ.out HP.out
  | some k =>
    have hk := (Dc.find_some hf).2.1
    have hm : mayP D.l true x y b = ((k : Int), Ent.valS (D.l.getD k Dc.en0) b) := by unfold mayP; rw [hf]; simp
    rw [hm] at M hz0
    dsimp only at M hz0
    by_cases hv : Ent.valS (D.l.getD k Dc.en0) b = 0
    · have hp : Dc.pokeS D x y b = ⟨D.l, D.v.set k b⟩ := by unfold Dc.pokeS; rw [hf]; dsimp only; rw [if_pos hv]
      rw [hv] at M hz0
      replace M := Lib.hid M
      have HP := Lib.hid hp; have HZ := Lib.hid hz0
      clear hp hz0 hv hf hm
      obtain ⟨t0, t1⟩ := h.two
      obtain ⟨A, n, c, hA, hF, hg, hr, hcell, hfr⟩ := h.value hk
      subst hA
      have hcap : D.l.length ≤ vc ∧ vc ≤ 9223372036854775807 := ⟨h.own.rv.le, h.own.rv.cap⟩
      have HC := Lib.hid hcap
      have hgl := h.blk.lt
      have HM : Hid (∀ {w1 : World} {n c : Nat} {A : Option Addr}, Below w.heap.size w w1 → OB w1 w.heap.size A n c b → DRt 66 (w1.setCell ⟨gv, k, none⟩ (.slice A n c)) (fun q => F q ∨ (w.heap.size ≤ q ∧ q < w1.heap.size)) g gv (some la) lc (some ⟨gv, 0, none⟩) vc xs (vs.set k (.slice A n c)) ⟨D.l, D.v.set k b⟩) := Lib.hid fun h1 h2 => h.put hk h1 h2
      clear hcap hr h
      generalize hmm : D.l.length = m at *
      have HMM := Lib.hid hmm
      clear hmm
      go_enter Tryz.func47, Tryz.ntmps47
      go_wp2_with fail
      refine (M.out).mono ?_
      rintro e w1 ⟨rfl, b1⟩
      have OWN := Lib.hid (down_any w1.drew (hb.below (b1.drew.mono hB)) hn (Nat.le_trans hB b1.drew.size))
      have t1' : w1.cell? ⟨g, 1, none⟩ = _ := (b1.cell (p := ⟨g, 1, none⟩) hgl).trans t1
      have T1 := cell_regrown t1'
      have i0 : (0 : Int) ≤ (k : Int) := by omega
      have i1 : (k : Int) < (m : Int) := by omega
      clear t0 t1 t1'
      go_wp2_with fail
      refine region_laterL 8 (by kernel_rfl) ?_
      refine phase_laterL (by kernel_rfl) 3 (below_drew _) [0, 4, 5, 1, 2, 3] rfl (by kernel_rfl) ?_
      simp only [picks, nth]
      repeat (go_big_quiet_step (fail))
      refine wpQuiet_nil ?_
      refine phase_opL 6 2 rfl (by kernel_rfl) (by decide) ?_
      simp only [nth]
      go_wp2_with fail
      refine (OWN.out).mono ?_
      rintro e w3 ⟨A3, c3, rfl, o3, b3⟩
      have b3' : Below w1.heap.size w1 w3 := (below_drew w1).trans b3
      go_wp2_with fail
      refine behind_laterL b3' ?_
      refine phase_laterL (by kernel_rfl) 1 (Below.refl _ _) [7] rfl (by kernel_rfl) ?_
      simp only [picks, nth]
      repeat (go_big_quiet_step (fail))
      refine wpQuiet_nil ?_
      have d3 := below_step b1 b3' (Nat.le_refl _)
      have e3 := (d3.cell (p := ⟨gv, k, none⟩) hg).trans hcell
      have f3 := (d3.frozen (p := ⟨gv, k, none⟩) hg).trans hfr
      refine phase_last 0 rfl (by kernel_rfl) (by decide) (by kernel_rfl) ?_
      simp only [nth]
      go_wp2_with fail
      refine behind_last ?_
      go_wp2_with fail
      go_ret
      have o3' : OB w3 w.heap.size A3 n' c3 b := o3.more b1.drew.size
      have hput := HM.out (w1 := w3) d3 o3'
      have M2 : Mv (fun q => q = gv) w (w3.setCell ⟨gv, k, none⟩ (.slice A3 n' c3)) := (Mv.of_new d3 _).trans (Mv.setCell w3 ⟨gv, k, none⟩ (.slice A3 n' c3)) fun b _ h => h
      refine ⟨by rw [← HZ.out]; rfl, M2, vs.set k (.slice A3 n' c3), ?_⟩
      rw [HP.out]
      exact hput.mono fun q hq hf => by
        rcases hf with hf | hf
        · exact .inl hf
        · exact .inr ⟨hf.1, by simpa [World.setCell] using hf.2⟩
    · have hp : Dc.pokeS D x y b = D := by unfold Dc.pokeS; rw [hf]; dsimp only; rw [if_neg hv]
      generalize Ent.valS (D.l.getD k Dc.en0) b = z at *
      have ez : (z == 0) = false := beq_false_of_ne hv
      replace M := Lib.hid M
      have HP := Lib.hid hp; have HZ := Lib.hid hz0
      clear hp hz0 hv hf hm
      go_enter Tryz.func47, Tryz.ntmps47
      go_wp2_with fail
      refine (M.out).mono ?_
      rintro e w1 ⟨rfl, b1⟩
      go_wp2_with fail
      go_ret
      exact poke_no h b1 HZ.out HP.out
set_option maxRecDepth 100000 in
set_option maxHeartbeats 4000000 in
theorem dPoke_any {F : Nat → Prop} {w : World} {g gv lc vc : Nat} {la : Addr} {vA : Option Addr} {xs vs : List Value} {D : Dc.Dic} (x y : Int) {A' : Option Addr} {n' c' B : Nat} {b : List UInt8} (h : DRt 66 w F g gv (some la) lc vA vc xs vs D) (hb : RB w B A' n' c' b) (hB : B ≤ w.heap.size) (hn : n' < 140737488355328) : Calls Tryz.prog 21 #[.pointer (some ⟨g, 0, none⟩), .int .i64 x, .int .i64 y, .slice A' n' c'] w (PokeP (t := 66) D x y b w F g gv (some la) lc vA vc xs) := by
  have M := Lib.hid (dput_any x y h hb hB hn)
  clear h hb
  go_enter Tryz.func21, Tryz.ntmps21
  go_wp2_with fail
  refine (M.out).mono ?_
  rintro e w1 ⟨rfl, h1, vs', h2⟩
  go_wp2_with fail
  go_ret
  exact ⟨rfl, h1, vs', h2⟩
end Go.Proofs.YtbmocffnnlfnjaaGreat
/-
  Walks: Find, missing, Poke of layer 15's reference, Lent of layer 14's.
  Conditions: none.
-/
namespace Go.Proofs.YtbmocffnnlfnjaaGreat
set_option linter.unusedVariables false
set_option linter.unusedSimpArgs false
open Go.RowKit
namespace Dc
def rfK (l : List Ent.En) (x y : Int) : Nat → Int
  | 0 => -2
  | i + 1 => if (l.getD i en0).index ≠ x then rfK l x y i else if (l.getD i en0).sub = y then (i : Int) else if rfK l x y i = -2 then -1 else rfK l x y i
theorem rfK_spec {l : List Ent.En} (ho : Ord l) {x y : Int} : ∀ i, i ≤ l.length →
    (∃ k : Nat, k < i ∧ (l.getD k en0).index = x ∧ (l.getD k en0).sub = y ∧ rfK l x y i = (k : Int)) ∨
    ((∀ k : Nat, k < i → ¬ ((l.getD k en0).index = x ∧ (l.getD k en0).sub = y)) ∧ (∃ k : Nat, k < i ∧ (l.getD k en0).index = x) ∧ rfK l x y i = -1) ∨
    ((∀ k : Nat, k < i → (l.getD k en0).index ≠ x) ∧ rfK l x y i = -2)
  | 0, _ => .inr (.inr ⟨fun k hk => absurd hk (by omega), rfl⟩)
  | i + 1, hi => by
    have ih := rfK_spec ho i (by omega) (x := x) (y := y)
    by_cases h1 : (l.getD i en0).index = x
    · by_cases h2 : (l.getD i en0).sub = y
      · refine .inl ⟨i, by omega, h1, h2, ?_⟩
        rw [rfK, if_neg (by simpa using h1), if_pos h2]
      · rw [rfK, if_neg (by simpa using h1), if_neg h2]
        rcases ih with ⟨k, k1, k2, k3, k4⟩ | ⟨k1, k2, k3⟩ | ⟨k1, k2⟩
        · refine .inl ⟨k, by omega, k2, k3, ?_⟩
          rw [k4, if_neg (by omega)]
        · right; left
          refine ⟨fun k hk => ?_, ⟨i, by omega, h1⟩, by rw [k3]; rfl⟩
          rcases Nat.lt_or_ge k i with h | h
          · exact k1 k h
          · obtain rfl : k = i := by omega
            exact fun h => h2 h.2
        · right; left
          refine ⟨fun k hk => ?_, ⟨i, by omega, h1⟩, by rw [k2]; rfl⟩
          rcases Nat.lt_or_ge k i with h | h
          · exact fun h3 => k1 k h h3.1
          · obtain rfl : k = i := by omega
            exact fun h => h2 h.2
    · rw [rfK, if_pos h1]
      rcases ih with ⟨k, k1, k2, k3, k4⟩ | ⟨k1, ⟨j, j1, j2⟩, k3⟩ | ⟨k1, k2⟩
      · exact .inl ⟨k, by omega, k2, k3, k4⟩
      · right; left
        refine ⟨fun k hk => ?_, ⟨j, by omega, j2⟩, k3⟩
        rcases Nat.lt_or_ge k i with h | h
        · exact k1 k h
        · obtain rfl : k = i := by omega
          exact fun h => h1 h.1
      · right; right
        refine ⟨fun k hk => ?_, k2⟩
        rcases Nat.lt_or_ge k i with h | h
        · exact k1 k h
        · obtain rfl : k = i := by omega
          exact h1
theorem rfK_all {l : List Ent.En} (ho : Ord l) (x y : Int) : rfK l x y l.length = rfind l x y := by
  unfold rfind
  rcases rfK_spec ho l.length (Nat.le_refl _) (x := x) (y := y) with ⟨k, k1, k2, k3, k4⟩ | ⟨k1, ⟨j, j1, j2⟩, k3⟩ | ⟨k1, k2⟩
  · cases h : findS l x y with
    | none => exact absurd ⟨k2, k3⟩ (find_none ho h k1)
    | some m =>
      obtain ⟨_, m2, m3, m4⟩ := find_some h
      rw [k4]
      have : k = m := by
        rcases Nat.lt_trichotomy k m with h1 | h1 | h1
        · have := ord_lt2 ho h1 m2; unfold Lt at this; omega
        · exact h1
        · have := ord_lt2 ho h1 k1; unfold Lt at this; omega
      rw [this]
  · cases h : findS l x y with
    | none =>
      dsimp only
      rw [if_pos (by unfold inB; rw [List.any_eq_true]; exact ⟨l.getD j en0, by rw [List.getD_eq_getElem?_getD, List.getElem?_eq_getElem j1]; exact List.getElem_mem j1, by simpa using j2⟩), k3]
    | some m =>
      obtain ⟨_, m2, m3, m4⟩ := find_some h
      exact absurd ⟨m3, m4⟩ (k1 m m2)
  · cases h : findS l x y with
    | none =>
      dsimp only
      rw [if_neg, k2]
      intro hi
      unfold inB at hi
      rw [List.any_eq_true] at hi
      obtain ⟨e, he, hx⟩ := hi
      obtain ⟨j, hj, rfl⟩ := List.getElem_of_mem he
      have := k1 j hj
      rw [List.getD_eq_getElem?_getD, List.getElem?_eq_getElem hj] at this
      exact this (by simpa using hx)
    | some m =>
      obtain ⟨_, m2, m3, m4⟩ := find_some h
      exact absurd m3 (k1 m m2)
end Dc
set_option maxRecDepth 100000 in
set_option maxHeartbeats 4000000 in
theorem rFind_any {F : Nat → Prop} {w : World} {g gv lc vc : Nat} {lA vA : Option Addr} {xs vs : List Value} {D : Dc.Dic} (x y : Int) (h : DRt 72 w F g gv lA lc vA vc xs vs D) : Calls Tryz.prog 48 #[.pointer (some ⟨g, 0, none⟩), .int .i64 x, .int .i64 y] w fun e w' => e = .returned (.int .i64 (Dc.rfind D.l x y)) ∧ w = w' := by
  obtain ⟨t0, t1⟩ := h.two
  have hfew := h.few
  have hcap := h.lcap
  have HRES : Hid (Dc.rfK D.l x y D.l.length = Dc.rfind D.l x y) := Lib.hid (Dc.rfK_all h.ord x y)
  generalize Dc.rfind D.l x y = res at *
  go_enter Tryz.func48, Tryz.ntmps48
  go_wp2_with fail
  go_loop [7, 8] (fun v i => ∃ k : Nat, k ≤ D.l.length ∧ i = .int .i64 k ∧ v = .int .i64 (Dc.rfK D.l x y k)) (fun _ i => D.l.length - (intOf i).toNat)
  case atStart => exact ⟨0, by omega, rfl, rfl⟩
  case round =>
    obtain ⟨k, hk, rfl, rfl⟩ := hrel
    by_cases hlt : k < D.l.length
    · obtain ⟨b, o, A, n, c, hA, hbB, hr, hc⟩ := h.entry hlt
      have c0 := hc 0 _ rfl
      have c1 := hc 1 _ rfl
      have hst : Dc.rfK D.l x y (k + 1) = if (D.l.getD k Dc.en0).index ≠ x then Dc.rfK D.l x y k else if (D.l.getD k Dc.en0).sub = y then (k : Int) else if Dc.rfK D.l x y k = -2 then -1 else Dc.rfK D.l x y k := rfl
      generalize hix : (D.l.getD k Dc.en0).index = ix at *
      generalize hsb : (D.l.getD k Dc.en0).sub = sb at *
      generalize hcur : Dc.rfK D.l x y k = cur at *
      subst hA
      simp only [Nat.add_zero] at c0
      clear hc hr hix hsb
      by_cases h1 : ix = x
      · rw [if_neg (by simpa using h1)] at hst
        subst h1
        have e1 : (ix != ix) = false := by simp
        by_cases h2 : sb = y
        · rw [if_pos h2] at hst
          subst h2
          have e2 : (sb == sb) = true := by simp
          have HST := Lib.hid hst
          clear hst hcur
          by_cases h3 : cur = -2
          · subst h3
            go_wp2_with fail
            go_round
            case rel => exact ⟨k + 1, by omega, by go_num, by rw [HST.out]⟩
            case measure => simp [intOf] <;> omega
          · have e3 : (cur == -2) = false := beq_false_of_ne h3
            clear h3
            go_wp2_with fail
            go_round
            case rel => exact ⟨k + 1, by omega, by go_num, by rw [HST.out]⟩
            case measure => simp [intOf] <;> omega
        · rw [if_neg h2] at hst
          have e2 : (sb == y) = false := beq_false_of_ne h2
          by_cases h3 : cur = -2
          · subst h3
            rw [if_pos rfl] at hst
            have HST := Lib.hid hst
            clear hst hcur h2
            go_wp2_with fail
            go_round
            case rel => exact ⟨k + 1, by omega, by go_num, by rw [HST.out]⟩
            case measure => simp [intOf] <;> omega
          · rw [if_neg h3] at hst
            have e3 : (cur == -2) = false := beq_false_of_ne h3
            have HST := Lib.hid hst
            clear hst hcur h2 h3
            go_wp2_with fail
            go_round
            case rel => exact ⟨k + 1, by omega, by go_num, by rw [HST.out]⟩
            case measure => simp [intOf] <;> omega
      · rw [if_pos h1] at hst
        have e1 : (ix != x) = true := by simpa using h1
        have HST := Lib.hid hst
        clear hst hcur h1
        go_wp2_with fail
        go_round
        case rel => exact ⟨k + 1, by omega, by go_num, by rw [HST.out]⟩
        case measure => simp [intOf] <;> omega
    · obtain rfl : k = D.l.length := by omega
      go_wp2_with fail
      go_ret
      exact ⟨by rw [← HRES.out]; rfl, rfl⟩
set_option maxRecDepth 100000 in
set_option maxHeartbeats 4000000 in
theorem missing_any (k : Int) (w : World) : Calls Tryz.prog 49 #[.int .i64 k] w fun e w' => e = .returned (.int .u32 (if k = -2 then 100794368 else 101253137)) ∧ w = w' := by
  by_cases h : k = -2
  · subst h
    go_enter Tryz.func49, Tryz.ntmps49
    go_wp2_with fail
    go_ret
    exact ⟨rfl, rfl⟩
  · rw [if_neg h]
    have e1 : (k == -2) = false := beq_false_of_ne h
    clear h
    go_enter Tryz.func49, Tryz.ntmps49
    go_wp2_with fail
    go_ret
    exact ⟨rfl, rfl⟩
theorem rpoke_code {D : Dc.Dic} {x y : Int} {b : List UInt8} (hf : Dc.findS D.l x y = none) : (if Dc.rfind D.l x y = -2 then (100794368 : Int) else 101253137) = Dc.mayS D.l true x y b := by
  unfold Dc.rfind Dc.mayS
  rw [hf]
  dsimp only
  cases Dc.inB D.l x <;> rfl
set_option maxRecDepth 100000 in
set_option maxHeartbeats 4000000 in
theorem rPoke_any {F : Nat → Prop} {w : World} {g gv lc vc : Nat} {lA vA : Option Addr} {xs vs : List Value} {D : Dc.Dic} (x y : Int) {A' : Option Addr} {n' c' B : Nat} {b : List UInt8} (h : DRt 72 w F g gv lA lc vA vc xs vs D) (hb : RB w B A' n' c' b) (hB : B ≤ w.heap.size) (hn : n' < 140737488355328) : Calls Tryz.prog 22 #[.pointer (some ⟨g, 0, none⟩), .int .i64 x, .int .i64 y, .slice A' n' c'] w (PokeP (t := 72) D x y b w F g gv lA lc vA vc xs) := by
  have FD := rFind_any x y h
  cases hf : Dc.findS D.l x y with
  | none =>
    have hp : Dc.pokeS D x y b = D := by unfold Dc.pokeS; rw [hf]
    have MS := fun w => missing_any (Dc.rfind D.l x y) w
    rw [rpoke_code (b := b) hf] at MS
    have hneg : Dc.rfind D.l x y < 0 := by unfold Dc.rfind; rw [hf]; dsimp only; split <;> omega
    generalize Dc.rfind D.l x y = rf at *
    replace FD := Lib.hid FD; replace MS := Lib.hid MS
    have HP := Lib.hid hp
    have hd : decide (rf < 0) = true := decide_eq_true hneg
    clear hp hf hneg
    go_enter Tryz.func22, Tryz.ntmps22
    go_wp2_with fail
    refine (FD.out).mono ?_
    rintro e w1 ⟨rfl, rfl⟩
    go_wp2_with fail
    refine (MS.out _).mono ?_
    rintro e w2 ⟨rfl, rfl⟩
    go_wp2_with fail
    go_ret
    exact poke_no h (Below.refl _ _) rfl HP.out
  | some k =>
    have hk := (Dc.find_some hf).2.1
    have hm : Dc.mayS D.l true x y b = Ent.valS (D.l.getD k Dc.en0) b := by unfold Dc.mayS; rw [hf]; simp
    have hrf : Dc.rfind D.l x y = (k : Int) := by unfold Dc.rfind; rw [hf]
    rw [hrf] at FD
    replace FD := Lib.hid FD
    obtain ⟨t0, t1⟩ := h.two
    obtain ⟨bb, o, Ae, ne, ce, hAe, hbB, hre, hc⟩ := h.entry hk
    have hlc := h.lcap
    have V := RValue_any (D.l.getD k Dc.en0) Ae ne ce w hb hB
    unfold enV at V
    have c0 := hc 0 _ rfl
    have c1 := hc 1 _ rfl
    have c2 := hc 2 _ rfl
    have c3 := hc 3 _ rfl
    have c4 := hc 4 _ rfl
    have c5 := hc 5 _ rfl
    have c6 := hc 6 _ rfl
    have c7 := hc 7 _ rfl
    have c8 := hc 8 _ rfl
    have c9 := hc 9 _ rfl
    have c10 := hc 10 _ rfl
    simp only [Nat.add_zero] at c0
    subst hAe
    by_cases hv : Ent.valS (D.l.getD k Dc.en0) b = 0
    · have hp : Dc.pokeS D x y b = ⟨D.l, D.v.set k b⟩ := by unfold Dc.pokeS; rw [hf]; dsimp only; rw [if_pos hv]
      rw [hv] at V hm
      replace V := Lib.hid V
      have HP := Lib.hid hp; have HZ := Lib.hid hm
      obtain ⟨A, n, c, hA, hF, hg, hr, hcell, hfr⟩ := h.value hk
      subst hA
      have hcap : D.l.length ≤ vc ∧ vc ≤ 9223372036854775807 := ⟨h.own.rv.le, h.own.rv.cap⟩
      have HC := Lib.hid hcap; have HLC := Lib.hid hlc
      have hgl := h.blk.lt
      have HM : Hid (∀ {w1 : World} {n c : Nat} {A : Option Addr}, Below w.heap.size w w1 → OB w1 w.heap.size A n c b → DRt 72 (w1.setCell ⟨gv, k, none⟩ (.slice A n c)) (fun q => F q ∨ (w.heap.size ≤ q ∧ q < w1.heap.size)) g gv (some ⟨bb, o, none⟩) lc (some ⟨gv, 0, none⟩) vc xs (vs.set k (.slice A n c)) ⟨D.l, D.v.set k b⟩) := Lib.hid fun h1 h2 => h.put hk h1 h2
      clear hp hv hf hm hrf hcap hlc hr hre hc h
      generalize hmm : D.l.length = m at *
      have HMM := Lib.hid hmm
      clear hmm
      generalize D.l.getD k Dc.en0 = e0 at *
      go_enter Tryz.func22, Tryz.ntmps22
      go_wp2_with fail
      refine (FD.out).mono ?_
      rintro e w ⟨rfl, rfl⟩
      have i0 : (0 : Int) ≤ (k : Int) := by omega
      have i1 : (k : Int) < (m : Int) := by omega
      go_wp2_with fail
      refine (V.out).mono ?_
      rintro e w1 ⟨rfl, b1⟩
      have J := Lib.hid (Join_any w1.drew (RB.none_ (B := 0)) (hb.below (b1.drew.mono hB)) (by omega) (Nat.zero_le _) (Nat.le_trans hB b1.drew.size))
      have T1 := cell_regrown ((b1.cell (p := ⟨g, 1, none⟩) hgl).trans t1)
      clear t0 t1
      go_wp2_with fail
      refine region_laterL 8 (by kernel_rfl) ?_
      refine phase_laterL (by kernel_rfl) 3 (below_drew _) [0, 4, 5, 1, 2, 3] rfl (by kernel_rfl) ?_
      simp only [picks, nth]
      repeat (go_big_quiet_step (fail))
      refine wpQuiet_nil ?_
      refine phase_opL 6 2 rfl (by kernel_rfl) (by decide) ?_
      simp only [nth]
      go_wp2_with fail
      refine (J.out).mono ?_
      rintro e w3 ⟨A3, c3, rfl, o3, b3⟩
      have b3' : Below w1.heap.size w1 w3 := (below_drew w1).trans b3
      rw [List.nil_append] at o3
      simp only [Nat.zero_add] at o3 ⊢
      go_wp2_with fail
      refine behind_laterL b3' ?_
      refine phase_laterL (by kernel_rfl) 1 (Below.refl _ _) [7] rfl (by kernel_rfl) ?_
      simp only [picks, nth]
      repeat (go_big_quiet_step (fail))
      refine wpQuiet_nil ?_
      have d3 := below_step b1 b3' (Nat.le_refl _)
      have e3 := (d3.cell (p := ⟨gv, k, none⟩) hg).trans hcell
      have f3 := (d3.frozen (p := ⟨gv, k, none⟩) hg).trans hfr
      refine phase_last 0 rfl (by kernel_rfl) (by decide) (by kernel_rfl) ?_
      simp only [nth]
      go_wp2_with fail
      refine behind_last ?_
      go_wp2_with fail
      go_ret
      have o3' : OB w3 w.heap.size A3 n' c3 b := o3.more b1.drew.size
      have hput := HM.out (w1 := w3) d3 o3'
      have M2 : Mv (fun q => q = gv) w (w3.setCell ⟨gv, k, none⟩ (.slice A3 n' c3)) := (Mv.of_new d3 _).trans (Mv.setCell w3 ⟨gv, k, none⟩ (.slice A3 n' c3)) fun b _ h => h
      refine ⟨by rw [HZ.out]; rfl, M2, vs.set k (.slice A3 n' c3), ?_⟩
      rw [HP.out]
      exact hput.mono fun q hq hf => by
        rcases hf with hf | hf
        · exact .inl hf
        · exact .inr ⟨hf.1, by simpa [World.setCell] using hf.2⟩
    · have hp : Dc.pokeS D x y b = D := by unfold Dc.pokeS; rw [hf]; dsimp only; rw [if_neg hv]
      have HZ := Lib.hid hm
      have HP := Lib.hid hp
      generalize hvv : Ent.valS (D.l.getD k Dc.en0) b = z at *
      have HVV := Lib.hid hvv
      have ez : (z == 0) = false := beq_false_of_ne hv
      replace V := Lib.hid V
      have HLC := Lib.hid hlc
      have HH := Lib.hid h
      clear hp hv hf hm hrf hlc hre hc hvv h
      generalize D.l.length = m at *
      generalize D.l.getD k Dc.en0 = e0 at *
      go_enter Tryz.func22, Tryz.ntmps22
      go_wp2_with fail
      refine (FD.out).mono ?_
      rintro e w ⟨rfl, rfl⟩
      go_wp2_with fail
      refine (V.out).mono ?_
      rintro e w1 ⟨rfl, b1⟩
      go_wp2_with fail
      go_ret
      exact poke_no HH.out b1 HZ.out.symm HP.out
end Go.Proofs.YtbmocffnnlfnjaaGreat
