/-
  Texts joined: TpdROps, TpdRTick.
  Conditions: none.
-/
import Derived.Test.YtbmocffnnlfnjaaGreatJ22
/-
  Walks: send, Trigger, Pulse, Has of the reference of layer 32.
  Conditions: none.
-/
namespace Go.Proofs.YtbmocffnnlfnjaaGreat
set_option linter.unusedVariables false
set_option linter.unusedSimpArgs false
open Go.RowKit Go.Sort
/-- A call that may send, its frames, and the PDO behind it. -/
def RSendP (l : List Can.Fr) (base g gd v : Nat) (t inh ev : Int) (ws : List Nat) (Aw : Option Addr) (cw : Nat) (s : Tp.St) (w : World) (e : Ending) (w' : World) : Prop :=
  ∃ A c, e = .returned (.slice A l.length c) ∧ OS (FrW w' w.heap.size) w' w.heap.size 60 3 A l.length c l ∧ Mv (fun q => q = g) w w' ∧ TpRM w' base g gd v t inh ev ws Aw cw s
theorem rsend_none {l : List Can.Fr} {base g gd v : Nat} {t inh ev : Int} {ws : List Nat} {Aw : Option Addr} {cw : Nat} {s : Tp.St} {w w' : World} (hl : l = []) (hm : Mv (fun q => q = g) w w') (h : TpRM w' base g gd v t inh ev ws Aw cw s) : RSendP l base g gd v t inh ev ws Aw cw s w (.returned (.slice none 0 0)) w' := by
  subst hl
  exact ⟨none, 0, rfl, OS.none_ _ _ _ _, hm, h⟩
section
variable {F : Nat → Prop} {w : World} {base g gd v : Nat} {t inh ev : Int} {ws : List Nat} {Aw : Option Addr} {cw : Nat} {s : Tp.St} {gv lc vc : Nat} {lA vA : Option Addr} {xs vs : List Value} {D : Dc.Dic}
set_option maxRecDepth 100000 in
set_option maxHeartbeats 8000000 in
theorem RTSend_any (hv : v < 4294967296) (hbad : Cob.bad v = false) (h : TpRM w base g gd v t inh ev ws Aw cw s) (hD : DRt 72 w F gd gv lA lc vA vc xs vs D) (hF : ∀ q, F q → q ≠ g) (hvs : ∀ v ∈ D.v, v.length ≤ 1000000) (hwl : ∀ x ∈ ws, x < 4294967296) (hbs : Tp.bytesS D v ws = if Cob.pdo v = 0 ∨ ws.length = 0 then none else some (Mp.gatherS D ws).1) :
    Calls Tryz.prog 46 #[.pointer (some ⟨g, 0, none⟩)] w (RSendP (framesS v (Tp.bytesS D v ws)) base g gd v t inh ev ws Aw cw (Tp.sentS inh ev s) w) := by
  have H1 := h.due false
  have H2 := H1.hld inh
  have T1 : TpRM (((w.setCell ⟨g, 6, none⟩ (.bool false)).setCell ⟨g, 7, none⟩ (.int .i64 inh)).setCell ⟨g, 8, none⟩ (.int .i64 ev)) base g gd v t inh ev ws Aw cw (Tp.sentS inh ev s) := H2.lft ev
  have F := h.blk.ten
  have F1 := H1.blk.ten
  have F2 := H2.blk.ten
  have M1 : Mv (fun q => q = g) w (((w.setCell ⟨g, 6, none⟩ (.bool false)).setCell ⟨g, 7, none⟩ (.int .i64 inh)).setCell ⟨g, 8, none⟩ (.int .i64 ev)) := ((Mv.setCell w ⟨g, 6, none⟩ (.bool false)).trans (Mv.setCell _ ⟨g, 7, none⟩ (.int .i64 inh)) (fun _ _ e => e)).trans (Mv.setCell _ ⟨g, 8, none⟩ (.int .i64 ev)) (fun _ _ e => e)
  have hD1 := hD.mv M1 fun q _ hf => hF q hf
  have HBS := Lib.hid hbs
  clear hD h H1 H2 hbs
  have ID0 := Lib.hid (RTId_any hv hbad T1)
  go_enter Tryz.func46, Tryz.ntmps46
  go_wp2_with fail
  clear F F1 F2
  generalize ((w.setCell ⟨g, 6, none⟩ (.bool false)).setCell ⟨g, 7, none⟩ (.int .i64 inh)).setCell ⟨g, 8, none⟩ (.int .i64 ev) = w1 at *
  by_cases hpd : Cob.pdo v = 0
  · have e0 : (Cob.pdo v : Int) = 0 := by omega
    have HB := Lib.hid (show framesS v (Tp.bytesS D v ws) = [] by rw [HBS.out, if_pos (.inl hpd)]; rfl)
    rw [e0] at ID0
    clear e0 hpd hD1
    refine (ID0.out).mono ?_
    rintro e w2 ⟨rfl, b2⟩
    go_wp2_with fail
    go_ret
    exact rsend_none HB.out (M1.trans (Mv.of_new b2 (fun q => q = g)) fun _ _ e => e) (T1.below b2)
  have e1 : ((Cob.pdo v : Int) == 0) = false := by rw [beq_eq_false_iff_ne]; omega
  refine (ID0.out).mono ?_
  rintro e w2 ⟨rfl, b2⟩
  have T2 := T1.below b2
  have M2 : Mv (fun q => q = g) w w2 := M1.trans (Mv.of_new b2 (fun q => q = g)) fun _ _ e => e
  have hD2 := hD1.below b2
  have G2 := T2.blk.ten
  have hlw := T2.words.rv.le
  have hcw := T2.words.rv.cap
  clear T1 M1 hD1 ID0 b2
  by_cases hws : ws.length = 0
  · have e2 : ((ws.length : Int) == 0) = true := by rw [hws]; rfl
    have HB := Lib.hid (show framesS v (Tp.bytesS D v ws) = [] by rw [HBS.out, if_pos (.inr hws)]; rfl)
    clear hpd hws hD2
    go_wp2_with fail
    go_ret
    exact rsend_none HB.out M2 T2
  have e2 : ((ws.length : Int) == 0) = false := by rw [beq_eq_false_iff_ne]; omega
  have HBS2 := Lib.hid (show Tp.bytesS D v ws = some (Mp.gatherS D ws).1 by rw [HBS.out, if_neg (by simp [hpd, hws])])
  have GA := RGather_any (hD2.below (below_drew w2)) hvs ((OWt.rw T2.words).below (below_drew w2)) hwl (Nat.le_refl _)
  unfold PackPost at GA
  generalize Mp.gatherS D ws = gs at *
  obtain ⟨gl, ge⟩ := gs
  dsimp only at GA HBS2
  replace GA := Lib.hid GA
  have g0 := cell_regrown G2.1.1
  have g5 := cell_regrown (T2.blk.cell 5)
  clear hpd hws hD2 HBS
  go_wp2_with fail
  refine region_later (by kernel_rfl) ?_
  refine phase_later (by kernel_rfl) 6 (below_drew _) [0, 4, 1, 5, 2, 6, 3, 7, 8] rfl (by kernel_rfl) ?_
  simp only [picks, nth]
  repeat (go_big_quiet_step (fail))
  refine wpQuiet_nil ?_
  refine phase_op 9 5 rfl (by kernel_rfl) (by decide) ?_
  simp only [nth]
  go_wp2_with fail
  refine (GA.out).mono ?_
  rintro e w3 ⟨A3, c3, rfl, o3, b3⟩
  have b23 : Below w2.heap.size w2 w3 := (below_drew w2).trans b3
  go_wp2_with fail
  refine behind_later b23 ?_
  refine phase_later (by kernel_rfl) 0 (Below.refl _ _) [10, 11, 12, 13, 14] rfl (by kernel_rfl) ?_
  simp only [picks, nth]
  repeat (go_big_quiet_step (fail))
  refine wpQuiet_nil ?_
  refine phase_end (by kernel_rfl) ?_
  have T3 := T2.below b23
  have M3 : Mv (fun q => q = g) w w3 := M2.trans (Mv.of_new b23 (fun q => q = g)) fun _ _ e => e
  have ID3 := Lib.hid (RTId_any hv hbad T3)
  clear G2 g0 g5 GA
  go_wp2_with fail
  refine (ID3.out).mono ?_
  rintro e w4 ⟨rfl, b4⟩
  have T4 := T3.below b4
  have M4 : Mv (fun q => q = g) w w4 := M3.trans (Mv.of_new b4 (fun q => q = g)) fun _ _ e => e
  have o4 := o3.below b4
  have b5 := alloc_one w4 (.cells #[.int .i64 (Cob.pdo v : Int), .bool false, .slice A3 gl.length c3] 60)
  clear ID3
  go_wp2_with fail
  go_ret
  rw [HBS2.out]
  refine ⟨some ⟨w4.heap.size, 0, none⟩, 1, rfl, ?_, M4.trans (Mv.of_new b5 (fun q => q = g)) fun _ _ e => e, T4.below b5⟩
  refine ⟨[.int .i64 (Cob.pdo v : Int), .bool false, .slice A3 gl.length c3], OV.new w4 _ 1 rfl (by omega) M4.size, ?_⟩
  exact Rows.one ⟨A3, gl.length, c3, rfl, ((o4.below b5).more (Nat.le_trans M2.size (by simp)))⟩ rfl
set_option maxRecDepth 100000 in
set_option maxHeartbeats 4000000 in
theorem RTrigger_any (hh : 0 ≤ s.hold) (hv : v < 4294967296) (hbad : Cob.bad v = false) (h : TpRM w base g gd v t inh ev ws Aw cw s) (hD : DRt 72 w F gd gv lA lc vA vc xs vs D) (hF : ∀ q, F q → q ≠ g) (hvs : ∀ v ∈ D.v, v.length ≤ 1000000) (hk : Tp.kindB t inh ev = true) (hwl : ∀ x ∈ ws, x < 4294967296) (hbs : Tp.bytesS D v ws = if Cob.pdo v = 0 ∨ ws.length = 0 then none else some (Mp.gatherS D ws).1) :
    Calls Tryz.prog 14 #[.pointer (some ⟨g, 0, none⟩)] w (RSendP (outT v (Tp.bytesS D v ws) (Tp.trigS t s)) base g gd v t inh ev ws Aw cw (stT inh ev (Tp.trigS t s)) w) := by
  have F0 := h.blk.ten
  have SD := Lib.hid (RTSend_any hv hbad h hD hF hvs hwl hbs)
  have TD := h.due true
  have MD : Mv (fun q => q = g) w (w.setCell ⟨g, 6, none⟩ (.bool true)) := Mv.setCell w ⟨g, 6, none⟩ _
  have hkk := (Tp.kind_parts hk).1
  clear hbs hk
  by_cases ht : 254 ≤ t
  · have t0 : (t == 0) = false := by rw [beq_eq_false_iff_ne]; omega
    have t1 : 240 < t := by omega
    by_cases hz : s.hold = 0
    · have HT := Lib.hid (show Tp.trigS t s = (true, s) by unfold Tp.trigS; rw [if_pos ht, if_pos hz])
      rw [hz] at F0
      clear hz hh hkk hD TD MD h
      go_enter Tryz.func14, Tryz.ntmps14
      go_wp2_with fail
      refine (SD.out).mono ?_
      rintro e w2 ⟨A, c, rfl, o, M, T2⟩
      go_wp2_with fail
      go_ret
      rw [HT.out]
      exact ⟨A, c, rfl, o, M, T2⟩
    · have HT := Lib.hid (show Tp.trigS t s = (false, { s with due := true }) by unfold Tp.trigS; rw [if_pos ht, if_neg hz])
      have hp : 0 < s.hold := by omega
      clear hz hh hkk hD h SD
      go_enter Tryz.func14, Tryz.ntmps14
      go_wp2_with fail
      go_ret
      rw [HT.out]
      exact rsend_none rfl MD TD
  · by_cases h0 : t = 0
    · subst h0
      have HT := Lib.hid (show Tp.trigS 0 s = (false, { s with due := true }) by unfold Tp.trigS; rw [if_neg ht, if_pos rfl])
      clear hD h SD hkk
      go_enter Tryz.func14, Tryz.ntmps14
      go_wp2_with fail
      go_ret
      rw [HT.out]
      exact rsend_none rfl MD TD
    · have HT := Lib.hid (show Tp.trigS t s = (false, s) by unfold Tp.trigS; rw [if_neg ht, if_neg h0])
      have t0 : (t == 0) = false := by simpa using h0
      have t1 : t ≤ 240 := by omega
      clear h0 hD SD MD TD hkk
      have H := Lib.hid h
      clear h
      go_enter Tryz.func14, Tryz.ntmps14
      go_wp2_with fail
      go_ret
      rw [HT.out]
      exact rsend_none rfl (Mv.refl _ _) H.out
set_option maxRecDepth 100000 in
set_option maxHeartbeats 4000000 in
theorem RTPulse_any (hcnt : 0 ≤ s.count ∧ s.count ≤ 1000) (hv : v < 4294967296) (hbad : Cob.bad v = false) (h : TpRM w base g gd v t inh ev ws Aw cw s) (hD : DRt 72 w F gd gv lA lc vA vc xs vs D) (hF : ∀ q, F q → q ≠ g) (hvs : ∀ v ∈ D.v, v.length ≤ 1000000) (hk : Tp.kindB t inh ev = true) (hwl : ∀ x ∈ ws, x < 4294967296) (hbs : Tp.bytesS D v ws = if Cob.pdo v = 0 ∨ ws.length = 0 then none else some (Mp.gatherS D ws).1) :
    Calls Tryz.prog 18 #[.pointer (some ⟨g, 0, none⟩)] w (RSendP (outT v (Tp.bytesS D v ws) (Tp.pulseS t s)) base g gd v t inh ev ws Aw cw (stT inh ev (Tp.pulseS t s)) w) := by
  have F0 := h.blk.ten
  have hkk := (Tp.kind_parts hk).1
  clear hk
  by_cases ht : 254 ≤ t
  · have HT := Lib.hid (show Tp.pulseS t s = (false, s) by unfold Tp.pulseS; rw [if_pos ht])
    have t1 : 240 < t := by omega
    have H := Lib.hid h
    clear h hD hbs hkk
    go_enter Tryz.func18, Tryz.ntmps18
    go_wp2_with fail
    go_ret
    rw [HT.out]
    exact rsend_none rfl (Mv.refl _ _) H.out
  have t1 : t ≤ 240 := by omega
  by_cases h0 : t = 0
  · subst h0
    have HT := Lib.hid (show Tp.pulseS 0 s = (s.due, s) by unfold Tp.pulseS; rw [if_neg ht, if_pos rfl])
    have SD := Lib.hid (RTSend_any hv hbad h hD hF hvs hwl hbs)
    have H := Lib.hid h
    clear hD h hbs hkk
    cases hdu : s.due
    · rw [hdu] at F0 HT
      clear hdu
      go_enter Tryz.func18, Tryz.ntmps18
      go_wp2_with fail
      go_ret
      rw [HT.out]
      exact rsend_none rfl (Mv.refl _ _) H.out
    · rw [hdu] at F0 HT
      clear hdu
      go_enter Tryz.func18, Tryz.ntmps18
      go_wp2_with fail
      refine (SD.out).mono ?_
      rintro e w2 ⟨A, c, rfl, o, M, T2⟩
      go_wp2_with fail
      go_ret
      rw [HT.out]
      exact ⟨A, c, rfl, o, M, T2⟩
  have t0 : (t == 0) = false := by simpa using h0
  have T1 := h.cnt (s.count + 1)
  have M1 : Mv (fun q => q = g) w (w.setCell ⟨g, 9, none⟩ (.int .i64 (s.count + 1))) := Mv.setCell w ⟨g, 9, none⟩ _
  have F1 := T1.blk.ten
  have F1a := cell_regrown (T1.blk.cell 2)
  have F1b := cell_regrown (T1.blk.cell 9)
  by_cases hlt : s.count + 1 < t
  · have HT := Lib.hid (show Tp.pulseS t s = (false, { s with count := s.count + 1 }) by unfold Tp.pulseS; rw [if_neg ht, if_neg h0, if_pos hlt])
    clear hD h h0 hkk hbs
    go_enter Tryz.func18, Tryz.ntmps18
    go_wp2_with fail
    refine wp_region_quiet_below (by kernel_rfl) (by kernel_rfl) ?_
    repeat (go_big_quiet_step (fail))
    refine wpQuiet_nil ?_
    intro _ hw'
    obtain ⟨⟨dq, osq⟩, hw''⟩ := hw'
    subst hw''
    dsimp only
    have bq := below_regrown (w.setCell ⟨g, 9, none⟩ (.int .i64 (s.count + 1))) dq osq
    have Tq := T1.below bq
    have Mq : Mv (fun q => q = g) w (grow (redrawn (w.setCell ⟨g, 9, none⟩ (.int .i64 (s.count + 1))) dq) osq) := M1.trans (Mv.of_new bq (fun q => q = g)) (fun _ _ e => e)
    clear F1 F1a F1b bq T1 M1
    generalize grow (redrawn (w.setCell ⟨g, 9, none⟩ (.int .i64 (s.count + 1))) dq) osq = wq at *
    go_wp2_with fail
    go_ret
    rw [HT.out]
    exact rsend_none rfl Mq Tq
  · have HT := Lib.hid (show Tp.pulseS t s = (true, { s with count := 0 }) by unfold Tp.pulseS; rw [if_neg ht, if_neg h0, if_neg hlt])
    clear h h0 hkk
    have HBS := Lib.hid hbs
    clear hbs
    go_enter Tryz.func18, Tryz.ntmps18
    go_wp2_with fail
    refine wp_region_quiet_below (by kernel_rfl) (by kernel_rfl) ?_
    repeat (go_big_quiet_step (fail))
    refine wpQuiet_nil ?_
    intro _ hw'
    obtain ⟨⟨dq, osq⟩, hw''⟩ := hw'
    subst hw''
    dsimp only
    have bq := below_regrown (w.setCell ⟨g, 9, none⟩ (.int .i64 (s.count + 1))) dq osq
    have Tq := T1.below bq
    have Mq : Mv (fun q => q = g) w (grow (redrawn (w.setCell ⟨g, 9, none⟩ (.int .i64 (s.count + 1))) dq) osq) := M1.trans (Mv.of_new bq (fun q => q = g)) (fun _ _ e => e)
    clear F1 F1a F1b bq T1 M1
    generalize grow (redrawn (w.setCell ⟨g, 9, none⟩ (.int .i64 (s.count + 1))) dq) osq = wq at *
    have T2 := Tq.cnt 0
    have M2 : Mv (fun q => q = g) w (wq.setCell ⟨g, 9, none⟩ (.int .i64 0)) := Mq.trans (Mv.setCell _ ⟨g, 9, none⟩ _) (fun _ _ e => e)
    have SD := Lib.hid (RTSend_any hv hbad T2 (hD.mv M2 fun q _ hf => hF q hf) hF hvs hwl HBS.out)
    have Fq := Tq.blk.ten
    clear hD Tq T2
    go_wp2_with fail
    refine (SD.out).mono ?_
    rintro e w2 ⟨A, c, rfl, o, M, T4⟩
    go_wp2_with fail
    go_ret
    rw [HT.out]
    exact ⟨A, c, rfl, OS.more o M2.size fun f cs ⟨A, n, c, h1, h2⟩ => ⟨A, n, c, h1, h2.more M2.size⟩, M2.trans M fun _ _ e => e, T4⟩
set_option maxRecDepth 100000 in
set_option maxHeartbeats 2000000 in
theorem RTHas_any (h : TpRM w base g gd v t inh ev ws Aw cw s) (hwl : ∀ x ∈ ws, x < 4294967296) (i j : Int) :
    Calls Tryz.prog 24 #[.pointer (some ⟨g, 0, none⟩), .int .i64 i, .int .i64 j] w fun e w' => e = .returned (.bool (Tp.hasS ws i j)) ∧ w = w' := by
  have F0 : w.cell? ⟨g, 5, none⟩ = some (.slice Aw ws.length cw) := h.blk.cell 5
  have hle := h.words.rv.le
  have hcap := h.words.rv.cap
  have hR := OWt.rw h.words
  clear h
  go_enter Tryz.func24, Tryz.ntmps24
  go_wp2_with fail
  go_loopw [7] (fun q wr => ∃ k : Nat, k ≤ ws.length ∧ q = .int .i64 k ∧ w = wr ∧ ∀ m, m < k → Tp.hitB (ws.getD m 0) i j = false) (fun q _ => ws.length - (intOf q).toNat)
  case atStart => exact ⟨0, by omega, rfl, rfl, fun m hm => absurd hm (by omega)⟩
  case round =>
    obtain ⟨k, hk, rfl, rfl, hno⟩ := hrel
    by_cases hlt : k < ws.length
    · obtain ⟨b, o, rfl, hb, hc⟩ := hR.at_ hlt
      have hx : ws.getD k 0 < 4294967296 := hwl _ (by rw [List.getD_eq_getElem?_getD, List.getElem?_eq_getElem hlt]; exact List.getElem_mem hlt)
      have HY := Tp.has_yes (i := i) (j := j) hlt
      obtain ⟨x, hkx⟩ : ∃ x, ws.getD k 0 = x := ⟨_, rfl⟩
      rw [hkx] at hc hx HY
      have HKX := Lib.hid hkx
      have MS := Lib.hid (RMSplit_any x hx w)
      replace HY := Lib.hid HY
      have HNO := Lib.hid hno
      clear hkx hno hR
      by_cases h1 : (Mp.ix x : Int) = i
      · by_cases h2 : (Mp.sb x : Int) = j
        · have HH := Lib.hid (HY.out h1 h2)
          have e1 : ((Mp.ix x : Int) == i) = true := by simpa using h1
          have e2 : ((Mp.sb x : Int) == j) = true := by simpa using h2
          clear h1 h2 HY HNO
          go_wp2_with fail
          refine (MS.out).mono ?_
          rintro e _ ⟨rfl, rfl⟩
          go_wp2_with fail
          go_ret
          refine ⟨?_, rfl⟩
          rw [HH.out]
          try rfl
        · have HH := Lib.hid (show Tp.hitB x i j = false by unfold Tp.hitB; rw [decide_eq_false h2]; simp)
          have e1 : ((Mp.ix x : Int) == i) = true := by simpa using h1
          have e2 : ((Mp.sb x : Int) == j) = false := by simpa using h2
          clear h1 h2 HY
          go_wp2_with fail
          refine (MS.out).mono ?_
          rintro e _ ⟨rfl, rfl⟩
          go_wp2_with fail
          go_roundw
          case rel => exact ⟨k + 1, by omega, by go_num, by first | rfl | trivial, fun m hm => by
            by_cases hmk : m < k
            · exact HNO.out m hmk
            · obtain rfl : m = k := by omega
              rw [HKX.out]; exact HH.out⟩
          case measure => simp [intOf] <;> omega
      · have HH := Lib.hid (show Tp.hitB x i j = false by unfold Tp.hitB; rw [decide_eq_false h1]; simp)
        have e1 : ((Mp.ix x : Int) == i) = false := by simpa using h1
        clear h1 HY
        go_wp2_with fail
        refine (MS.out).mono ?_
        rintro e _ ⟨rfl, rfl⟩
        go_wp2_with fail
        go_roundw
        case rel => exact ⟨k + 1, by omega, by go_num, by first | rfl | trivial, fun m hm => by
          by_cases hmk : m < k
          · exact HNO.out m hmk
          · obtain rfl : m = k := by omega
            rw [HKX.out]; exact HH.out⟩
        case measure => simp [intOf] <;> omega
    · obtain rfl : k = ws.length := by omega
      have HH := Lib.hid (Tp.has_no hno)
      clear hno
      go_wp2_with fail
      go_ret
      refine ⟨?_, rfl⟩
      rw [HH.out]
      try rfl
end
end Go.Proofs.YtbmocffnnlfnjaaGreat
/-
  Walk: Tick of the reference of layer 32.
  Conditions: none.
-/
namespace Go.Proofs.YtbmocffnnlfnjaaGreat
set_option linter.unusedVariables false
set_option linter.unusedSimpArgs false
open Go.RowKit Go.Sort
section
variable {F : Nat → Prop} {w : World} {base g gd v : Nat} {t inh ev : Int} {ws : List Nat} {Aw : Option Addr} {cw : Nat} {s : Tp.St} {gv lc vc : Nat} {lA vA : Option Addr} {xs vs : List Value} {D : Dc.Dic}
set_option maxRecDepth 100000 in
set_option maxHeartbeats 8000000 in
theorem RTTick_any (hh : 0 ≤ s.hold ∧ s.hold ≤ 65535) (hl : 0 ≤ s.left ∧ s.left ≤ 65535) (hv : v < 4294967296) (hbad : Cob.bad v = false) (h : TpRM w base g gd v t inh ev ws Aw cw s) (hD : DRt 72 w F gd gv lA lc vA vc xs vs D) (hF : ∀ q, F q → q ≠ g) (hvs : ∀ v ∈ D.v, v.length ≤ 1000000) (hk : Tp.kindB t inh ev = true) (hwl : ∀ x ∈ ws, x < 4294967296) (hbs : Tp.bytesS D v ws = if Cob.pdo v = 0 ∨ ws.length = 0 then none else some (Mp.gatherS D ws).1) :
    Calls Tryz.prog 16 #[.pointer (some ⟨g, 0, none⟩)] w (RSendP (outT v (Tp.bytesS D v ws) (Tp.tickS t s)) base g gd v t inh ev ws Aw cw (stT inh ev (Tp.tickS t s)) w) := by
  have F0 := h.blk.ten
  have hkk := (Tp.kind_parts hk).1
  clear hk
  by_cases ht : 254 ≤ t
  case neg =>
    have HT := Lib.hid (show Tp.tickS t s = (false, s) by unfold Tp.tickS; rw [if_neg ht])
    have t1 : t ≤ 240 := by omega
    have H := Lib.hid h
    clear h hD hbs hkk
    go_enter Tryz.func16, Tryz.ntmps16
    go_wp2_with fail
    go_ret
    rw [HT.out]
    exact rsend_none rfl (Mv.refl _ _) H.out
  have t1 : 240 < t := by omega
  have HBS := Lib.hid hbs
  clear hbs hkk
  obtain ⟨due, hold, left, count⟩ := s
  dsimp only at hh hl F0
  obtain ⟨hh1, hh2⟩ := hh
  obtain ⟨hl1', hl2'⟩ := hl
  rcases (show hold = 0 ∨ hold = 1 ∨ 1 < hold by omega) with rfl | rfl | hB1
  · skip
    rcases (show left = 0 ∨ left = 1 ∨ 1 < left by omega) with rfl | rfl | hl1
    · skip
      cases due
      · have HT := Lib.hid (show Tp.tickS t ⟨false, 0, 0, count⟩ = (false, (⟨false, 0, 0, count⟩ : Tp.St)) by unfold Tp.tickS Tp.downS; simp only [if_pos ht, if_pos (show (0 : Int) ≤ 1 by omega)]; simp)
        have M0 : Mv (fun q => q = g) w w := Mv.refl _ _
        have T0 := h
        clear hD h HBS
        have TT := Lib.hid T0
        clear T0
        go_enter Tryz.func16, Tryz.ntmps16
        go_wp2_with fail
        go_ret
        rw [HT.out]
        exact rsend_none rfl M0 TT.out
      · have HT := Lib.hid (show Tp.tickS t ⟨true, 0, 0, count⟩ = (true, (⟨true, 0, 0, count⟩ : Tp.St)) by unfold Tp.tickS Tp.downS; simp only [if_pos ht, if_pos (show (0 : Int) ≤ 1 by omega)]; simp)
        have M0 : Mv (fun q => q = g) w w := Mv.refl _ _
        have T0 := h
        have SD := Lib.hid (RTSend_any hv hbad T0 (hD.mv M0 fun q _ hf => hF q hf) hF hvs hwl HBS.out)
        clear hD h HBS
        have TT := Lib.hid T0
        clear T0
        go_enter Tryz.func16, Tryz.ntmps16
        go_wp2_with fail
        refine (SD.out).mono ?_
        rintro e w2 ⟨A, c, rfl, o, M, T4⟩
        go_wp2_with fail
        go_ret
        rw [HT.out]
        exact ⟨A, c, rfl, OS.more o M0.size fun f cs ⟨A, n, c, h1, h2⟩ => ⟨A, n, c, h1, h2.more M0.size⟩, M0.trans M fun _ _ e => e, T4⟩
    · skip
      cases due
      · have T1 := h.lft (0)
        have M1 : Mv (fun q => q = g) w (w.setCell ⟨g, 8, none⟩ (.int .i64 (0))) := Mv.setCell w ⟨g, 8, none⟩ (.int .i64 (0))
        have F1 := T1.blk.ten
        have T2 := T1.due (true)
        have M2 : Mv (fun q => q = g) w ((w.setCell ⟨g, 8, none⟩ (.int .i64 (0))).setCell ⟨g, 6, none⟩ (.bool true)) := M1.trans (Mv.setCell (w.setCell ⟨g, 8, none⟩ (.int .i64 (0))) ⟨g, 6, none⟩ (.bool true)) (fun _ _ e => e)
        have F2 := T2.blk.ten
        have HT := Lib.hid (show Tp.tickS t ⟨false, 0, 1, count⟩ = (true, (⟨true, 0, 0, count⟩ : Tp.St)) by unfold Tp.tickS Tp.downS; simp only [if_pos ht, if_pos (show (0 : Int) ≤ 1 by omega)]; simp)
        have SD := Lib.hid (RTSend_any hv hbad T2 (hD.mv M2 fun q _ hf => hF q hf) hF hvs hwl HBS.out)
        clear hD h HBS
        have TT := Lib.hid T2
        clear T1 T2
        go_enter Tryz.func16, Tryz.ntmps16
        go_wp2_with fail
        refine (SD.out).mono ?_
        rintro e w2 ⟨A, c, rfl, o, M, T4⟩
        go_wp2_with fail
        go_ret
        rw [HT.out]
        exact ⟨A, c, rfl, OS.more o M2.size fun f cs ⟨A, n, c, h1, h2⟩ => ⟨A, n, c, h1, h2.more M2.size⟩, M2.trans M fun _ _ e => e, T4⟩
      · have T1 := h.lft (0)
        have M1 : Mv (fun q => q = g) w (w.setCell ⟨g, 8, none⟩ (.int .i64 (0))) := Mv.setCell w ⟨g, 8, none⟩ (.int .i64 (0))
        have F1 := T1.blk.ten
        have T2 := T1.due (true)
        have M2 : Mv (fun q => q = g) w ((w.setCell ⟨g, 8, none⟩ (.int .i64 (0))).setCell ⟨g, 6, none⟩ (.bool true)) := M1.trans (Mv.setCell (w.setCell ⟨g, 8, none⟩ (.int .i64 (0))) ⟨g, 6, none⟩ (.bool true)) (fun _ _ e => e)
        have F2 := T2.blk.ten
        have HT := Lib.hid (show Tp.tickS t ⟨true, 0, 1, count⟩ = (true, (⟨true, 0, 0, count⟩ : Tp.St)) by unfold Tp.tickS Tp.downS; simp only [if_pos ht, if_pos (show (0 : Int) ≤ 1 by omega)]; simp)
        have SD := Lib.hid (RTSend_any hv hbad T2 (hD.mv M2 fun q _ hf => hF q hf) hF hvs hwl HBS.out)
        clear hD h HBS
        have TT := Lib.hid T2
        clear T1 T2
        go_enter Tryz.func16, Tryz.ntmps16
        go_wp2_with fail
        refine (SD.out).mono ?_
        rintro e w2 ⟨A, c, rfl, o, M, T4⟩
        go_wp2_with fail
        go_ret
        rw [HT.out]
        exact ⟨A, c, rfl, OS.more o M2.size fun f cs ⟨A, n, c, h1, h2⟩ => ⟨A, n, c, h1, h2.more M2.size⟩, M2.trans M fun _ _ e => e, T4⟩
    · skip
      have hl2 : ¬ left = 1 := by omega
      have hl0 : (left - 1 == 0) = false := by rw [beq_eq_false_iff_ne]; omega
      have hlp : 0 < left := by omega
      cases due
      · have T1 := h.lft (left - 1)
        have M1 : Mv (fun q => q = g) w (w.setCell ⟨g, 8, none⟩ (.int .i64 (left - 1))) := Mv.setCell w ⟨g, 8, none⟩ (.int .i64 (left - 1))
        have F1 := T1.blk.ten
        have HT := Lib.hid (show Tp.tickS t ⟨false, 0, left, count⟩ = (false, (⟨false, 0, left - 1, count⟩ : Tp.St)) by unfold Tp.tickS Tp.downS; simp only [if_pos ht, if_pos (show (0 : Int) ≤ 1 by omega)]; simp [hlp, hl2])
        clear hD h HBS
        have TT := Lib.hid T1
        clear T1
        go_enter Tryz.func16, Tryz.ntmps16
        go_wp2_with fail
        go_ret
        rw [HT.out]
        exact rsend_none rfl M1 TT.out
      · have T1 := h.lft (left - 1)
        have M1 : Mv (fun q => q = g) w (w.setCell ⟨g, 8, none⟩ (.int .i64 (left - 1))) := Mv.setCell w ⟨g, 8, none⟩ (.int .i64 (left - 1))
        have F1 := T1.blk.ten
        have HT := Lib.hid (show Tp.tickS t ⟨true, 0, left, count⟩ = (true, (⟨true, 0, left - 1, count⟩ : Tp.St)) by unfold Tp.tickS Tp.downS; simp only [if_pos ht, if_pos (show (0 : Int) ≤ 1 by omega)]; simp [hlp, hl2])
        have SD := Lib.hid (RTSend_any hv hbad T1 (hD.mv M1 fun q _ hf => hF q hf) hF hvs hwl HBS.out)
        clear hD h HBS
        have TT := Lib.hid T1
        clear T1
        go_enter Tryz.func16, Tryz.ntmps16
        go_wp2_with fail
        refine (SD.out).mono ?_
        rintro e w2 ⟨A, c, rfl, o, M, T4⟩
        go_wp2_with fail
        go_ret
        rw [HT.out]
        exact ⟨A, c, rfl, OS.more o M1.size fun f cs ⟨A, n, c, h1, h2⟩ => ⟨A, n, c, h1, h2.more M1.size⟩, M1.trans M fun _ _ e => e, T4⟩
  · skip
    rcases (show left = 0 ∨ left = 1 ∨ 1 < left by omega) with rfl | rfl | hl1
    · skip
      cases due
      · have T1 := h.hld (0)
        have M1 : Mv (fun q => q = g) w (w.setCell ⟨g, 7, none⟩ (.int .i64 (0))) := Mv.setCell w ⟨g, 7, none⟩ (.int .i64 (0))
        have F1 := T1.blk.ten
        have HT := Lib.hid (show Tp.tickS t ⟨false, 1, 0, count⟩ = (false, (⟨false, 0, 0, count⟩ : Tp.St)) by unfold Tp.tickS Tp.downS; simp only [if_pos ht, if_pos (show (1 : Int) ≤ 1 by omega)]; simp)
        clear hD h HBS
        have TT := Lib.hid T1
        clear T1
        go_enter Tryz.func16, Tryz.ntmps16
        go_wp2_with fail
        go_ret
        rw [HT.out]
        exact rsend_none rfl M1 TT.out
      · have T1 := h.hld (0)
        have M1 : Mv (fun q => q = g) w (w.setCell ⟨g, 7, none⟩ (.int .i64 (0))) := Mv.setCell w ⟨g, 7, none⟩ (.int .i64 (0))
        have F1 := T1.blk.ten
        have HT := Lib.hid (show Tp.tickS t ⟨true, 1, 0, count⟩ = (true, (⟨true, 0, 0, count⟩ : Tp.St)) by unfold Tp.tickS Tp.downS; simp only [if_pos ht, if_pos (show (1 : Int) ≤ 1 by omega)]; simp)
        have SD := Lib.hid (RTSend_any hv hbad T1 (hD.mv M1 fun q _ hf => hF q hf) hF hvs hwl HBS.out)
        clear hD h HBS
        have TT := Lib.hid T1
        clear T1
        go_enter Tryz.func16, Tryz.ntmps16
        go_wp2_with fail
        refine (SD.out).mono ?_
        rintro e w2 ⟨A, c, rfl, o, M, T4⟩
        go_wp2_with fail
        go_ret
        rw [HT.out]
        exact ⟨A, c, rfl, OS.more o M1.size fun f cs ⟨A, n, c, h1, h2⟩ => ⟨A, n, c, h1, h2.more M1.size⟩, M1.trans M fun _ _ e => e, T4⟩
    · skip
      cases due
      · have T1 := h.hld (0)
        have M1 : Mv (fun q => q = g) w (w.setCell ⟨g, 7, none⟩ (.int .i64 (0))) := Mv.setCell w ⟨g, 7, none⟩ (.int .i64 (0))
        have F1 := T1.blk.ten
        have T2 := T1.lft (0)
        have M2 : Mv (fun q => q = g) w ((w.setCell ⟨g, 7, none⟩ (.int .i64 (0))).setCell ⟨g, 8, none⟩ (.int .i64 (0))) := M1.trans (Mv.setCell (w.setCell ⟨g, 7, none⟩ (.int .i64 (0))) ⟨g, 8, none⟩ (.int .i64 (0))) (fun _ _ e => e)
        have F2 := T2.blk.ten
        have T3 := T2.due (true)
        have M3 : Mv (fun q => q = g) w (((w.setCell ⟨g, 7, none⟩ (.int .i64 (0))).setCell ⟨g, 8, none⟩ (.int .i64 (0))).setCell ⟨g, 6, none⟩ (.bool true)) := M2.trans (Mv.setCell ((w.setCell ⟨g, 7, none⟩ (.int .i64 (0))).setCell ⟨g, 8, none⟩ (.int .i64 (0))) ⟨g, 6, none⟩ (.bool true)) (fun _ _ e => e)
        have F3 := T3.blk.ten
        have HT := Lib.hid (show Tp.tickS t ⟨false, 1, 1, count⟩ = (true, (⟨true, 0, 0, count⟩ : Tp.St)) by unfold Tp.tickS Tp.downS; simp only [if_pos ht, if_pos (show (1 : Int) ≤ 1 by omega)]; simp)
        have SD := Lib.hid (RTSend_any hv hbad T3 (hD.mv M3 fun q _ hf => hF q hf) hF hvs hwl HBS.out)
        clear hD h HBS
        have TT := Lib.hid T3
        clear T1 T2 T3
        go_enter Tryz.func16, Tryz.ntmps16
        go_wp2_with fail
        refine (SD.out).mono ?_
        rintro e w2 ⟨A, c, rfl, o, M, T4⟩
        go_wp2_with fail
        go_ret
        rw [HT.out]
        exact ⟨A, c, rfl, OS.more o M3.size fun f cs ⟨A, n, c, h1, h2⟩ => ⟨A, n, c, h1, h2.more M3.size⟩, M3.trans M fun _ _ e => e, T4⟩
      · have T1 := h.hld (0)
        have M1 : Mv (fun q => q = g) w (w.setCell ⟨g, 7, none⟩ (.int .i64 (0))) := Mv.setCell w ⟨g, 7, none⟩ (.int .i64 (0))
        have F1 := T1.blk.ten
        have T2 := T1.lft (0)
        have M2 : Mv (fun q => q = g) w ((w.setCell ⟨g, 7, none⟩ (.int .i64 (0))).setCell ⟨g, 8, none⟩ (.int .i64 (0))) := M1.trans (Mv.setCell (w.setCell ⟨g, 7, none⟩ (.int .i64 (0))) ⟨g, 8, none⟩ (.int .i64 (0))) (fun _ _ e => e)
        have F2 := T2.blk.ten
        have T3 := T2.due (true)
        have M3 : Mv (fun q => q = g) w (((w.setCell ⟨g, 7, none⟩ (.int .i64 (0))).setCell ⟨g, 8, none⟩ (.int .i64 (0))).setCell ⟨g, 6, none⟩ (.bool true)) := M2.trans (Mv.setCell ((w.setCell ⟨g, 7, none⟩ (.int .i64 (0))).setCell ⟨g, 8, none⟩ (.int .i64 (0))) ⟨g, 6, none⟩ (.bool true)) (fun _ _ e => e)
        have F3 := T3.blk.ten
        have HT := Lib.hid (show Tp.tickS t ⟨true, 1, 1, count⟩ = (true, (⟨true, 0, 0, count⟩ : Tp.St)) by unfold Tp.tickS Tp.downS; simp only [if_pos ht, if_pos (show (1 : Int) ≤ 1 by omega)]; simp)
        have SD := Lib.hid (RTSend_any hv hbad T3 (hD.mv M3 fun q _ hf => hF q hf) hF hvs hwl HBS.out)
        clear hD h HBS
        have TT := Lib.hid T3
        clear T1 T2 T3
        go_enter Tryz.func16, Tryz.ntmps16
        go_wp2_with fail
        refine (SD.out).mono ?_
        rintro e w2 ⟨A, c, rfl, o, M, T4⟩
        go_wp2_with fail
        go_ret
        rw [HT.out]
        exact ⟨A, c, rfl, OS.more o M3.size fun f cs ⟨A, n, c, h1, h2⟩ => ⟨A, n, c, h1, h2.more M3.size⟩, M3.trans M fun _ _ e => e, T4⟩
    · skip
      have hl2 : ¬ left = 1 := by omega
      have hl0 : (left - 1 == 0) = false := by rw [beq_eq_false_iff_ne]; omega
      have hlp : 0 < left := by omega
      cases due
      · have T1 := h.hld (0)
        have M1 : Mv (fun q => q = g) w (w.setCell ⟨g, 7, none⟩ (.int .i64 (0))) := Mv.setCell w ⟨g, 7, none⟩ (.int .i64 (0))
        have F1 := T1.blk.ten
        have T2 := T1.lft (left - 1)
        have M2 : Mv (fun q => q = g) w ((w.setCell ⟨g, 7, none⟩ (.int .i64 (0))).setCell ⟨g, 8, none⟩ (.int .i64 (left - 1))) := M1.trans (Mv.setCell (w.setCell ⟨g, 7, none⟩ (.int .i64 (0))) ⟨g, 8, none⟩ (.int .i64 (left - 1))) (fun _ _ e => e)
        have F2 := T2.blk.ten
        have HT := Lib.hid (show Tp.tickS t ⟨false, 1, left, count⟩ = (false, (⟨false, 0, left - 1, count⟩ : Tp.St)) by unfold Tp.tickS Tp.downS; simp only [if_pos ht, if_pos (show (1 : Int) ≤ 1 by omega)]; simp [hlp, hl2])
        clear hD h HBS
        have TT := Lib.hid T2
        clear T1 T2
        go_enter Tryz.func16, Tryz.ntmps16
        go_wp2_with fail
        go_ret
        rw [HT.out]
        exact rsend_none rfl M2 TT.out
      · have T1 := h.hld (0)
        have M1 : Mv (fun q => q = g) w (w.setCell ⟨g, 7, none⟩ (.int .i64 (0))) := Mv.setCell w ⟨g, 7, none⟩ (.int .i64 (0))
        have F1 := T1.blk.ten
        have T2 := T1.lft (left - 1)
        have M2 : Mv (fun q => q = g) w ((w.setCell ⟨g, 7, none⟩ (.int .i64 (0))).setCell ⟨g, 8, none⟩ (.int .i64 (left - 1))) := M1.trans (Mv.setCell (w.setCell ⟨g, 7, none⟩ (.int .i64 (0))) ⟨g, 8, none⟩ (.int .i64 (left - 1))) (fun _ _ e => e)
        have F2 := T2.blk.ten
        have HT := Lib.hid (show Tp.tickS t ⟨true, 1, left, count⟩ = (true, (⟨true, 0, left - 1, count⟩ : Tp.St)) by unfold Tp.tickS Tp.downS; simp only [if_pos ht, if_pos (show (1 : Int) ≤ 1 by omega)]; simp [hlp, hl2])
        have SD := Lib.hid (RTSend_any hv hbad T2 (hD.mv M2 fun q _ hf => hF q hf) hF hvs hwl HBS.out)
        clear hD h HBS
        have TT := Lib.hid T2
        clear T1 T2
        go_enter Tryz.func16, Tryz.ntmps16
        go_wp2_with fail
        refine (SD.out).mono ?_
        rintro e w2 ⟨A, c, rfl, o, M, T4⟩
        go_wp2_with fail
        go_ret
        rw [HT.out]
        exact ⟨A, c, rfl, OS.more o M2.size fun f cs ⟨A, n, c, h1, h2⟩ => ⟨A, n, c, h1, h2.more M2.size⟩, M2.trans M fun _ _ e => e, T4⟩
  · skip
    have hB : ¬ hold ≤ 1 := by omega
    have hB2 : (hold - 1 == 0) = false := by rw [beq_eq_false_iff_ne]; omega
    rcases (show left = 0 ∨ left = 1 ∨ 1 < left by omega) with rfl | rfl | hl1
    · skip
      cases due
      · have T1 := h.hld (hold - 1)
        have M1 : Mv (fun q => q = g) w (w.setCell ⟨g, 7, none⟩ (.int .i64 (hold - 1))) := Mv.setCell w ⟨g, 7, none⟩ (.int .i64 (hold - 1))
        have F1 := T1.blk.ten
        have HT := Lib.hid (show Tp.tickS t ⟨false, hold, 0, count⟩ = (false, (⟨false, hold - 1, 0, count⟩ : Tp.St)) by unfold Tp.tickS Tp.downS; simp only [if_pos ht, if_neg hB]; simp <;> omega)
        clear hD h HBS
        have TT := Lib.hid T1
        clear T1
        go_enter Tryz.func16, Tryz.ntmps16
        go_wp2_with fail
        go_ret
        rw [HT.out]
        exact rsend_none rfl M1 TT.out
      · have T1 := h.hld (hold - 1)
        have M1 : Mv (fun q => q = g) w (w.setCell ⟨g, 7, none⟩ (.int .i64 (hold - 1))) := Mv.setCell w ⟨g, 7, none⟩ (.int .i64 (hold - 1))
        have F1 := T1.blk.ten
        have HT := Lib.hid (show Tp.tickS t ⟨true, hold, 0, count⟩ = (false, (⟨true, hold - 1, 0, count⟩ : Tp.St)) by unfold Tp.tickS Tp.downS; simp only [if_pos ht, if_neg hB]; simp <;> omega)
        clear hD h HBS
        have TT := Lib.hid T1
        clear T1
        go_enter Tryz.func16, Tryz.ntmps16
        go_wp2_with fail
        go_ret
        rw [HT.out]
        exact rsend_none rfl M1 TT.out
    · skip
      cases due
      · have T1 := h.hld (hold - 1)
        have M1 : Mv (fun q => q = g) w (w.setCell ⟨g, 7, none⟩ (.int .i64 (hold - 1))) := Mv.setCell w ⟨g, 7, none⟩ (.int .i64 (hold - 1))
        have F1 := T1.blk.ten
        have T2 := T1.lft (0)
        have M2 : Mv (fun q => q = g) w ((w.setCell ⟨g, 7, none⟩ (.int .i64 (hold - 1))).setCell ⟨g, 8, none⟩ (.int .i64 (0))) := M1.trans (Mv.setCell (w.setCell ⟨g, 7, none⟩ (.int .i64 (hold - 1))) ⟨g, 8, none⟩ (.int .i64 (0))) (fun _ _ e => e)
        have F2 := T2.blk.ten
        have T3 := T2.due (true)
        have M3 : Mv (fun q => q = g) w (((w.setCell ⟨g, 7, none⟩ (.int .i64 (hold - 1))).setCell ⟨g, 8, none⟩ (.int .i64 (0))).setCell ⟨g, 6, none⟩ (.bool true)) := M2.trans (Mv.setCell ((w.setCell ⟨g, 7, none⟩ (.int .i64 (hold - 1))).setCell ⟨g, 8, none⟩ (.int .i64 (0))) ⟨g, 6, none⟩ (.bool true)) (fun _ _ e => e)
        have F3 := T3.blk.ten
        have HT := Lib.hid (show Tp.tickS t ⟨false, hold, 1, count⟩ = (false, (⟨true, hold - 1, 0, count⟩ : Tp.St)) by unfold Tp.tickS Tp.downS; simp only [if_pos ht, if_neg hB]; simp <;> omega)
        clear hD h HBS
        have TT := Lib.hid T3
        clear T1 T2 T3
        go_enter Tryz.func16, Tryz.ntmps16
        go_wp2_with fail
        go_ret
        rw [HT.out]
        exact rsend_none rfl M3 TT.out
      · have T1 := h.hld (hold - 1)
        have M1 : Mv (fun q => q = g) w (w.setCell ⟨g, 7, none⟩ (.int .i64 (hold - 1))) := Mv.setCell w ⟨g, 7, none⟩ (.int .i64 (hold - 1))
        have F1 := T1.blk.ten
        have T2 := T1.lft (0)
        have M2 : Mv (fun q => q = g) w ((w.setCell ⟨g, 7, none⟩ (.int .i64 (hold - 1))).setCell ⟨g, 8, none⟩ (.int .i64 (0))) := M1.trans (Mv.setCell (w.setCell ⟨g, 7, none⟩ (.int .i64 (hold - 1))) ⟨g, 8, none⟩ (.int .i64 (0))) (fun _ _ e => e)
        have F2 := T2.blk.ten
        have T3 := T2.due (true)
        have M3 : Mv (fun q => q = g) w (((w.setCell ⟨g, 7, none⟩ (.int .i64 (hold - 1))).setCell ⟨g, 8, none⟩ (.int .i64 (0))).setCell ⟨g, 6, none⟩ (.bool true)) := M2.trans (Mv.setCell ((w.setCell ⟨g, 7, none⟩ (.int .i64 (hold - 1))).setCell ⟨g, 8, none⟩ (.int .i64 (0))) ⟨g, 6, none⟩ (.bool true)) (fun _ _ e => e)
        have F3 := T3.blk.ten
        have HT := Lib.hid (show Tp.tickS t ⟨true, hold, 1, count⟩ = (false, (⟨true, hold - 1, 0, count⟩ : Tp.St)) by unfold Tp.tickS Tp.downS; simp only [if_pos ht, if_neg hB]; simp <;> omega)
        clear hD h HBS
        have TT := Lib.hid T3
        clear T1 T2 T3
        go_enter Tryz.func16, Tryz.ntmps16
        go_wp2_with fail
        go_ret
        rw [HT.out]
        exact rsend_none rfl M3 TT.out
    · skip
      have hl2 : ¬ left = 1 := by omega
      have hl0 : (left - 1 == 0) = false := by rw [beq_eq_false_iff_ne]; omega
      have hlp : 0 < left := by omega
      cases due
      · have T1 := h.hld (hold - 1)
        have M1 : Mv (fun q => q = g) w (w.setCell ⟨g, 7, none⟩ (.int .i64 (hold - 1))) := Mv.setCell w ⟨g, 7, none⟩ (.int .i64 (hold - 1))
        have F1 := T1.blk.ten
        have T2 := T1.lft (left - 1)
        have M2 : Mv (fun q => q = g) w ((w.setCell ⟨g, 7, none⟩ (.int .i64 (hold - 1))).setCell ⟨g, 8, none⟩ (.int .i64 (left - 1))) := M1.trans (Mv.setCell (w.setCell ⟨g, 7, none⟩ (.int .i64 (hold - 1))) ⟨g, 8, none⟩ (.int .i64 (left - 1))) (fun _ _ e => e)
        have F2 := T2.blk.ten
        have HT := Lib.hid (show Tp.tickS t ⟨false, hold, left, count⟩ = (false, (⟨false, hold - 1, left - 1, count⟩ : Tp.St)) by unfold Tp.tickS Tp.downS; simp only [if_pos ht, if_neg hB]; simp [hlp, hl2] <;> omega)
        clear hD h HBS
        have TT := Lib.hid T2
        clear T1 T2
        go_enter Tryz.func16, Tryz.ntmps16
        go_wp2_with fail
        go_ret
        rw [HT.out]
        exact rsend_none rfl M2 TT.out
      · have T1 := h.hld (hold - 1)
        have M1 : Mv (fun q => q = g) w (w.setCell ⟨g, 7, none⟩ (.int .i64 (hold - 1))) := Mv.setCell w ⟨g, 7, none⟩ (.int .i64 (hold - 1))
        have F1 := T1.blk.ten
        have T2 := T1.lft (left - 1)
        have M2 : Mv (fun q => q = g) w ((w.setCell ⟨g, 7, none⟩ (.int .i64 (hold - 1))).setCell ⟨g, 8, none⟩ (.int .i64 (left - 1))) := M1.trans (Mv.setCell (w.setCell ⟨g, 7, none⟩ (.int .i64 (hold - 1))) ⟨g, 8, none⟩ (.int .i64 (left - 1))) (fun _ _ e => e)
        have F2 := T2.blk.ten
        have HT := Lib.hid (show Tp.tickS t ⟨true, hold, left, count⟩ = (false, (⟨true, hold - 1, left - 1, count⟩ : Tp.St)) by unfold Tp.tickS Tp.downS; simp only [if_pos ht, if_neg hB]; simp [hlp, hl2] <;> omega)
        clear hD h HBS
        have TT := Lib.hid T2
        clear T1 T2
        go_enter Tryz.func16, Tryz.ntmps16
        go_wp2_with fail
        go_ret
        rw [HT.out]
        exact rsend_none rfl M2 TT.out
end
end Go.Proofs.YtbmocffnnlfnjaaGreat
