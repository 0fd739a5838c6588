/-
  Texts joined: DicVals, ValSame.
  Conditions: none.
-/
import Derived.Test.YtoplpmfdgaabfaaGreatJ04
import Derived.Test.YtoplpmfdgaabfaaGreatJ09
import Derived.Test.YtoplpmfdgaabfaaGreatJ15
import Derived.Test.YtoplpmfdgaabfaaGreatJ18
import Derived.Test.YtoplpmfdgaabfaaGreatJ21
/-
  Walks: Values of layer 15, and of its reference.
  Conditions: none.
-/
namespace Go.Proofs.YtoplpmfdgaabfaaGreat.Dc
set_option linter.unusedVariables false
set_option linter.unusedSimpArgs false
/-- The first k values. -/
def valuesK (D : Dic) (k : Nat) : List Vl := (List.range k).map fun k => ⟨(D.l.getD k en0).index, (D.l.getD k en0).sub, D.v.getD k []⟩
theorem valuesK_step (D : Dic) (k : Nat) : valuesK D (k + 1) = valuesK D k ++ [⟨(D.l.getD k en0).index, (D.l.getD k en0).sub, D.v.getD k []⟩] := by
  unfold valuesK
  rw [List.range_succ, List.map_append]
  rfl
theorem valuesK_len (D : Dic) (k : Nat) : (valuesK D k).length = k := by unfold valuesK; simp
theorem valuesS_len (D : Dic) : (valuesS D).length = D.l.length := valuesK_len D D.l.length
end Go.Proofs.YtoplpmfdgaabfaaGreat.Dc
namespace Go.Proofs.YtoplpmfdgaabfaaGreat
set_option linter.unusedVariables false
set_option linter.unusedSimpArgs false
open Go.RowKit
/-- All values, in new memory. -/
def ValsP (D : Dc.Dic) (w : World) (e : Ending) (w' : World) : Prop := ∃ A c, e = .returned (.slice A D.l.length c) ∧ OS (VlW w' w.heap.size) w' w.heap.size 45 3 A D.l.length c (Dc.valuesS D) ∧ Below w.heap.size w w'
theorem Mp_getD {L : List (List UInt8)} (h : ∀ v ∈ L, v.length ≤ 1000000) (k : Nat) : (L.getD k []).length ≤ 1000000 := by
  rw [List.getD_eq_getElem?_getD]
  cases hi : L[k]? with
  | none => simp
  | some x => exact h _ (List.mem_of_getElem? hi)
set_option maxRecDepth 100000 in
set_option maxHeartbeats 4000000 in
theorem dVals_any {F : Nat → Prop} {w : World} {g gv lc vc : Nat} {la : Addr} {vA : Option Addr} {xs vs : List Value} {D : Dc.Dic} (h : DRt 89 w F g gv (some la) lc vA vc xs vs D) (hv : ∀ v ∈ D.v, v.length ≤ 1000000) : Calls Tryz.prog 14 #[.pointer (some ⟨g, 0, none⟩)] w (ValsP D w) := by
  obtain ⟨t0, t1⟩ := h.two
  have T0 := cell_regrown t0
  have T1 := cell_regrown t1
  have HLC := Lib.hid h.lcap
  have hcap : D.l.length ≤ vc ∧ vc ≤ 9223372036854775807 := ⟨h.own.rv.le, h.own.rv.cap⟩
  obtain ⟨hcap1, hcap2⟩ := hcap
  obtain ⟨hlc1, hlc2⟩ := h.lcap
  have hgl := h.blk.lt
  have h96 := h.few
  have LN := Lib.hid (dLen_any h)
  go_enter Tryz.func14, Tryz.ntmps14
  go_wp2_with fail
  refine (LN.out).mono ?_
  rintro e w2 ⟨rfl, rfl⟩
  go_wp2_with fail
  go_loopw [3, 7] (fun v i wr => ∃ (k : Nat) (A1 : Option Addr) (c1 : Nat), k ≤ D.l.length ∧ i = .int .i64 k ∧ v = .slice A1 k c1 ∧ OS (VlW wr w.heap.size) wr w.heap.size 45 3 A1 k c1 (Dc.valuesK D k) ∧ Below w.heap.size w wr) (fun _ i _ => D.l.length - (intOf i).toNat)
  case atStart => exact ⟨0, _, _, by omega, rfl, rfl, OS.none_ _ _ _ _, Below.refl _ _⟩
  case round =>
    obtain ⟨k, A1, c1, hk, rfl, rfl, os, bb⟩ := hrel
    have t0' := (bb.cell (p := ⟨g, 0, none⟩) hgl).trans t0
    by_cases hlt : k < D.l.length
    · obtain ⟨b, oo, A0, n0, c0, hA0, hbB, hr0, hc⟩ := h.entry hlt
      obtain ⟨A2, n2, c2, hA2, _, hg, hr2, hcell, _⟩ := h.value hlt
      have hnx := Dc.valuesK_step D k
      have hln := Mp_getD hv k
      have hl2 := hr2.len
      have q0 := cell_regrown (hc 0 _ rfl)
      have q1 := cell_regrown (hc 1 _ rfl)
      have q2 := cell_regrown hcell
      simp only [Nat.add_zero] at q0
      try dsimp only at q0 q1
      injection hA0 with hA0
      subst hA0 hA2
      generalize D.v.getD k [] = dat at *
      generalize (D.l.getD k Dc.en0).index = ixx at *
      generalize (D.l.getD k Dc.en0).sub = sbx at *
      subst hl2
      have HN := Lib.hid hnx
      have OWN := Lib.hid (fun (w2 : World) (hb : Below w.heap.size w w2) => down_any w2 (hr2.below hb) (by omega) hb.size)
      have i0 : (0 : Int) ≤ (k : Int) := by omega
      have i1 : (k : Int) < (D.l.length : Int) := by omega
      have bd := bb.trans ((below_drew wr).mono bb.size)
      clear hnx hc hr0 hr2 hcell
      go_wp2_with fail
      refine region_since (w0 := w) (by kernel_rfl) ?_
      refine phase_later (by kernel_rfl) 5 bd [0, 1, 5, 9, 13, 17, 21, 2, 10, 18, 3, 11, 19, 4, 12, 20, 6, 14, 22, 7, 15, 23, 8, 16] rfl (by kernel_rfl) ?_
      simp only [picks, nth]
      repeat (go_big_quiet_step (fail))
      refine wpQuiet_nil ?_
      refine phase_op 24 4 rfl (by kernel_rfl) (by decide) ?_
      simp only [nth]
      go_wp2_with fail
      refine (OWN.out _ bd).mono ?_
      rintro e w3 ⟨A3, c3, rfl, o3, b3⟩
      skip
      have b3' : Below wr.heap.size wr w3 := (below_drew wr).trans b3
      have d3 := below_step bb b3' (Nat.le_refl _)
      have os3 := os.below b3' (R' := VlW w3 w.heap.size) fun _ _ h => h.below b3'
      have ow3 := (o3.ow).more (base' := w.heap.size) bd.size
      clear os o3
      go_wp2_with fail
      refine behind_since d3 ?_
      refine phase_later (by kernel_rfl) 3 d3 [25] rfl (by kernel_rfl) ?_
      simp only [picks, nth]
      repeat (go_big_quiet_step (fail))
      refine wpQuiet_nil ?_
      refine phase_op 26 2 rfl (by kernel_rfl) (by decide) ?_
      simp only [nth]
      have b4 := alloc_one w3 (.cells #[.int .i64 ixx, .int .i64 sbx, .slice A3 dat.length c3] 45)
      have d4 := below_step d3 b4 (Nat.le_refl _)
      have os4 := os3.below b4 (R' := VlW _ w.heap.size) fun _ _ h => h.below b4
      have hnew := RV.new w3 45 (size := 3) (cs := [.int .i64 ixx, .int .i64 sbx, .slice A3 dat.length c3]) rfl
      have hf4 : VlW (w3.alloc (.cells #[.int .i64 ixx, .int .i64 sbx, .slice A3 dat.length c3] 45)) w.heap.size ⟨ixx, sbx, dat⟩ [.int .i64 ixx, .int .i64 sbx, .slice A3 dat.length c3] := ⟨A3, dat.length, c3, rfl, ow3.below b4⟩
      go_wp2_with fail
      refine behind_since d4 ?_
      refine phase_op 27 1 rfl (by kernel_rfl) (by decide) ?_
      simp only [nth]
      go_wp2_with (at_builtin; refine wpList_apps2 etvl (fun w1 => VlW w1 w.heap.size) rfl (.tmp 10) (.tmp 36) rfl rfl rfl w.heap.size os4 ⟨ixx, sbx, dat⟩ hnew hf4 (value_oneCell _ _ _ _ _) (by omega) (by omega) d4.size (fun w1 A1 n1 c1 xs h g f cs hf => hf.beside h (by decide) g) ?_; intro A5 c5 w5 o5 b5 g5 _)
      have d5 := d4.trans b5
      refine behind_since d5 ?_
      refine phase_later (by kernel_rfl) 0 d5 [28] rfl (by kernel_rfl) ?_
      simp only [picks, nth]
      repeat (go_big_quiet_step (fail))
      refine wpQuiet_nil ?_
      refine phase_end (by kernel_rfl) ?_
      clear os3 os4 hnew hf4
      go_wp2_with fail
      go_roundw
      case rel => exact ⟨k + 1, A5, c5, by omega, by go_num, rfl, by rw [HN.out]; exact o5, d5⟩
      case measure => simp [intOf] <;> omega
    · obtain rfl : k = D.l.length := by omega
      go_wp2_with fail
      go_ret
      exact ⟨A1, c1, rfl, os, bb⟩
set_option maxRecDepth 100000 in
set_option maxHeartbeats 4000000 in
theorem rVals_any {F : Nat → Prop} {w : World} {g gv lc vc : Nat} {lA : Option Addr} {vA : Option Addr} {xs vs : List Value} {D : Dc.Dic} (h : DRt 85 w F g gv lA lc vA vc xs vs D) (hv : ∀ v ∈ D.v, v.length ≤ 1000000) : Calls Tryz.prog 15 #[.pointer (some ⟨g, 0, none⟩)] w (ValsP D w) := by
  obtain ⟨t0, t1⟩ := h.two
  have T0 := cell_regrown t0
  have T1 := cell_regrown t1
  have HLC := Lib.hid h.lcap
  have hcap : D.l.length ≤ vc ∧ vc ≤ 9223372036854775807 := ⟨h.own.rv.le, h.own.rv.cap⟩
  obtain ⟨hcap1, hcap2⟩ := hcap
  obtain ⟨hlc1, hlc2⟩ := h.lcap
  have hgl := h.blk.lt
  have h96 := h.few
  go_enter Tryz.func15, Tryz.ntmps15
  go_wp2_with fail
  go_loopw [3, 4] (fun v i wr => ∃ (k : Nat) (A1 : Option Addr) (c1 : Nat), k ≤ D.l.length ∧ i = .int .i64 k ∧ v = .slice A1 k c1 ∧ OS (VlW wr w.heap.size) wr w.heap.size 45 3 A1 k c1 (Dc.valuesK D k) ∧ Below w.heap.size w wr) (fun _ i _ => D.l.length - (intOf i).toNat)
  case atStart => exact ⟨0, _, _, by omega, rfl, rfl, OS.none_ _ _ _ _, Below.refl _ _⟩
  case round =>
    obtain ⟨k, A1, c1, hk, rfl, rfl, os, bb⟩ := hrel
    have t0' := (bb.cell (p := ⟨g, 0, none⟩) hgl).trans t0
    by_cases hlt : k < D.l.length
    · obtain ⟨b, oo, A0, n0, c0, hA0, hbB, hr0, hc⟩ := h.entry hlt
      obtain ⟨A2, n2, c2, hA2, _, hg, hr2, hcell, _⟩ := h.value hlt
      have hnx := Dc.valuesK_step D k
      have hln := Mp_getD hv k
      have hl2 := hr2.len
      have q0 := cell_regrown (hc 0 _ rfl)
      have q1 := cell_regrown (hc 1 _ rfl)
      have q2 := cell_regrown hcell
      simp only [Nat.add_zero] at q0
      try dsimp only at q0 q1
      skip
      subst hA0 hA2
      generalize D.v.getD k [] = dat at *
      generalize (D.l.getD k Dc.en0).index = ixx at *
      generalize (D.l.getD k Dc.en0).sub = sbx at *
      subst hl2
      have HN := Lib.hid hnx
      have OWN := Lib.hid (fun (w2 : World) (hb : Below w.heap.size w w2) => Join_any w2 (RB.none_ (B := 0)) (hr2.below hb) (by omega) (Nat.zero_le _) hb.size)
      have i0 : (0 : Int) ≤ (k : Int) := by omega
      have i1 : (k : Int) < (D.l.length : Int) := by omega
      have bd := bb.trans ((below_drew wr).mono bb.size)
      clear hnx hc hr0 hr2 hcell
      go_wp2_with fail
      refine region_since (w0 := w) (by kernel_rfl) ?_
      refine phase_later (by kernel_rfl) 5 bd [0, 1, 5, 9, 13, 17, 21, 2, 10, 18, 3, 11, 19, 4, 12, 20, 6, 14, 22, 7, 15, 23, 8, 16] rfl (by kernel_rfl) ?_
      simp only [picks, nth]
      repeat (go_big_quiet_step (fail))
      refine wpQuiet_nil ?_
      refine phase_op 24 4 rfl (by kernel_rfl) (by decide) ?_
      simp only [nth]
      go_wp2_with fail
      refine (OWN.out _ bd).mono ?_
      rintro e w3 ⟨A3, c3, rfl, o3, b3⟩
      rw [List.nil_append] at o3; simp only [Nat.zero_add] at o3 ⊢
      have b3' : Below wr.heap.size wr w3 := (below_drew wr).trans b3
      have d3 := below_step bb b3' (Nat.le_refl _)
      have os3 := os.below b3' (R' := VlW w3 w.heap.size) fun _ _ h => h.below b3'
      have ow3 := (o3.ow).more (base' := w.heap.size) bd.size
      clear os o3
      go_wp2_with fail
      refine behind_since d3 ?_
      refine phase_later (by kernel_rfl) 3 d3 [25] rfl (by kernel_rfl) ?_
      simp only [picks, nth]
      repeat (go_big_quiet_step (fail))
      refine wpQuiet_nil ?_
      refine phase_op 26 2 rfl (by kernel_rfl) (by decide) ?_
      simp only [nth]
      have b4 := alloc_one w3 (.cells #[.int .i64 ixx, .int .i64 sbx, .slice A3 dat.length c3] 45)
      have d4 := below_step d3 b4 (Nat.le_refl _)
      have os4 := os3.below b4 (R' := VlW _ w.heap.size) fun _ _ h => h.below b4
      have hnew := RV.new w3 45 (size := 3) (cs := [.int .i64 ixx, .int .i64 sbx, .slice A3 dat.length c3]) rfl
      have hf4 : VlW (w3.alloc (.cells #[.int .i64 ixx, .int .i64 sbx, .slice A3 dat.length c3] 45)) w.heap.size ⟨ixx, sbx, dat⟩ [.int .i64 ixx, .int .i64 sbx, .slice A3 dat.length c3] := ⟨A3, dat.length, c3, rfl, ow3.below b4⟩
      go_wp2_with fail
      refine behind_since d4 ?_
      refine phase_op 27 1 rfl (by kernel_rfl) (by decide) ?_
      simp only [nth]
      go_wp2_with (at_builtin; refine wpList_apps2 etvl (fun w1 => VlW w1 w.heap.size) rfl (.tmp 14) (.tmp 40) rfl rfl rfl w.heap.size os4 ⟨ixx, sbx, dat⟩ hnew hf4 (value_oneCell _ _ _ _ _) (by omega) (by omega) d4.size (fun w1 A1 n1 c1 xs h g f cs hf => hf.beside h (by decide) g) ?_; intro A5 c5 w5 o5 b5 g5 _)
      have d5 := d4.trans b5
      refine behind_since d5 ?_
      refine phase_later (by kernel_rfl) 0 d5 [28] rfl (by kernel_rfl) ?_
      simp only [picks, nth]
      repeat (go_big_quiet_step (fail))
      refine wpQuiet_nil ?_
      refine phase_end (by kernel_rfl) ?_
      clear os3 os4 hnew hf4
      go_wp2_with fail
      go_roundw
      case rel => exact ⟨k + 1, A5, c5, by omega, by go_num, rfl, by rw [HN.out]; exact o5, d5⟩
      case measure => simp [intOf] <;> omega
    · obtain rfl : k = D.l.length := by omega
      go_wp2_with fail
      go_ret
      exact ⟨A1, c1, rfl, os, bb⟩
end Go.Proofs.YtoplpmfdgaabfaaGreat
/-
  Walk: Same of layer 15's reference, of two lists of values that are alike.
  Conditions: none.
-/
namespace Go.Proofs.YtoplpmfdgaabfaaGreat
set_option linter.unusedVariables false
set_option linter.unusedSimpArgs false
open Go.RowKit
set_option maxRecDepth 100000 in
set_option maxHeartbeats 4000000 in
theorem VSame_any {A : Option Addr} {n c B B0 : Nat} {fs : List Dc.Vl} {A' : Option Addr} {c' B' B1 : Nat} (w : World) (h : RVl w B B0 A n c fs) (h' : RVl w B' B1 A' n c' fs) (hB : B ≤ w.heap.size) (hB' : B' ≤ w.heap.size) (hB0 : B0 ≤ w.heap.size) (hB1 : B1 ≤ w.heap.size) :
    Calls Tryz.prog 11 #[.slice A n c, .slice A' n c'] w fun e w' => e = .returned (.bool true) ∧ Below w.heap.size w w' := by
  have hn := h.lt
  go_enter Tryz.func11, Tryz.ntmps11
  go_wp2_with fail
  go_loopw [5] (fun i wr => ∃ k : Nat, k ≤ n ∧ i = .int .i64 k ∧ Below w.heap.size w wr) (fun i _ => n - (intOf i).toNat)
  case atStart => exact ⟨0, by omega, rfl, Below.refl _ _⟩
  case round =>
    obtain ⟨k, hk, rfl, hbel⟩ := hrel
    by_cases hlt : k < n
    · obtain ⟨b, o, A1, n1, c1, rfl, hbB, q0, q1, q2, hr⟩ := h.at_ hlt
      obtain ⟨b', o', A2, n2, c2, rfl, hbB', q0', q1', q2', hr'⟩ := h'.at_ hlt
      generalize fs.getD k vl0 = f at *
      obtain ⟨fi, fr, fd⟩ := f
      dsimp only at *
      replace q0 := cell_regrown ((hbel.cell (p := ⟨b, o + k * 3, none⟩) (Nat.lt_of_lt_of_le hbB hB)).trans q0)
      replace q1 := cell_regrown ((hbel.cell (p := ⟨b, o + k * 3 + 1, none⟩) (Nat.lt_of_lt_of_le hbB hB)).trans q1)
      replace q2 := cell_regrown ((hbel.cell (p := ⟨b, o + k * 3 + 2, none⟩) (Nat.lt_of_lt_of_le hbB hB)).trans q2)
      replace q0' := cell_regrown ((hbel.cell (p := ⟨b', o' + k * 3, none⟩) (Nat.lt_of_lt_of_le hbB' hB')).trans q0')
      replace q1' := cell_regrown ((hbel.cell (p := ⟨b', o' + k * 3 + 1, none⟩) (Nat.lt_of_lt_of_le hbB' hB')).trans q1')
      replace q2' := cell_regrown ((hbel.cell (p := ⟨b', o' + k * 3 + 2, none⟩) (Nat.lt_of_lt_of_le hbB' hB')).trans q2')
      have e1 := convb_grow (hr.below (hbel.mono hB0)) (Nat.le_trans hB0 hbel.size)
      have e2 := convb_grow (hr'.below (hbel.mono hB1)) (Nat.le_trans hB1 hbel.size)
      have g1 : (fi != fi) = false := by simp
      have g2 : (fr != fr) = false := by simp
      have i0 : (0 : Int) ≤ (k : Int) := by omega
      have i1 : (k : Int) < (n : Int) := by omega
      clear hr hr'
      go_wp2_with fail
      refine region_later (by kernel_rfl) ?_
      refine phase_later (by kernel_rfl) 0 (below_drew _) [0, 1, 5, 6, 2, 7, 3, 8, 4, 9, 10, 11, 12, 13, 17, 18, 14, 19, 15, 20, 16, 21, 22, 23, 24, 25, 26, 31, 32, 27, 33, 28, 34, 29, 35, 30, 36, 37, 38] rfl (by kernel_rfl) ?_
      simp only [picks, nth]
      repeat (go_big_quiet_step (fail))
      refine wpQuiet_nil ?_
      refine phase_end (by kernel_rfl) ?_
      have d1 := below_step hbel (below_drew wr) (Nat.le_refl _)
      clear q0 q1 q2 q0' q1' q2' e1 e2
      go_wp2_with fail
      go_roundw
      case rel => exact ⟨k + 1, by omega, by go_num, d1⟩
      case measure => simp [intOf] <;> omega
    · obtain rfl : k = n := by omega
      go_wp2_with fail
      go_ret
      exact ⟨rfl, hbel⟩
end Go.Proofs.YtoplpmfdgaabfaaGreat
