/-
  Texts joined: DicRPeek, PrmRef, ValSame, ValOwn, DicVals.
  Conditions: none.
-/
import Derived.Test.YtgkhpebhhkdgoaaGreatJ03
import Derived.Test.YtgkhpebhhkdgoaaGreatJ04
import Derived.Test.YtgkhpebhhkdgoaaGreatJ07
import Derived.Test.YtgkhpebhhkdgoaaGreatJ09
import Derived.Test.YtgkhpebhhkdgoaaGreatJ14
import Derived.Test.YtgkhpebhhkdgoaaGreatJ18
/-
  Not of this seat.
  Conditions: none.
-/
/-
  Walks: the reference of layer 33.
  Conditions: none.
-/
namespace Go.Proofs.YtgkhpebhhkdgoaaGreat
set_option linter.unusedVariables false
set_option linter.unusedSimpArgs false
open Go.RowKit
theorem num_fine_some {D : Dc.Dic} (h : Dc.Fine D) {x y : Int} {k : Nat} (hf : Dc.findS D.l x y = some k) (ht : Pm.isNum (D.l.getD k Dc.en0).type = true) : Pm.numS D x y = ((Ty.decS (D.l.getD k Dc.en0).type (D.v.getD k [])).1, true) := by
  have e : Pm.numS D x y = ((Ty.decS (D.l.getD k Dc.en0).type (D.v.getD k [])).1, decide ((Ty.decS (D.l.getD k Dc.en0).type (D.v.getD k [])).2 = 0)) := by
    unfold Pm.numS
    rw [hf]
    dsimp only
    rw [if_pos ht]
  have hk := (Dc.find_some hf).2.1
  have hv := h.ok k hk
  have hb : 0 < (Ty.kd (D.l.getD k Dc.en0).type).bits := by
    rcases of_decide_eq_true ht with e | e | e <;> rw [e] <;> decide
  unfold Ent.valS at hv
  rw [if_pos hb] at hv
  unfold Ent.numS at hv
  have hd : (Ty.decS (D.l.getD k Dc.en0).type (D.v.getD k [])).2 = 0 := by
    rcases Decidable.em ((Ty.decS (D.l.getD k Dc.en0).type (D.v.getD k [])).2 = 0) with h | h
    · exact h
    · exfalso
      simp only [h, ne_eq, not_false_eq_true, if_true] at hv
      split at hv
      · simp at hv
      · split at hv <;> simp at hv
  rw [e, hd]
  rfl
section
variable {F : Nat → Prop} {w : World} {g gv lc vc : Nat} {lA vA : Option Addr} {xs vs : List Value} {D : Dc.Dic}
set_option maxRecDepth 100000 in
set_option maxHeartbeats 4000000 in
theorem RNumber_any (x y : Int) (h : DRt 109 w F g gv lA lc vA vc xs vs D) (hf : Dc.Fine D) :
    Calls Tryz.prog 26 #[.pointer (some ⟨g, 0, none⟩), .int .i64 x, .int .i64 y] w fun e w' => e = .returned (.tuple #[.int .i64 (Pm.numS D x y).1, .bool (Pm.numS D x y).2]) ∧ w = w' := by
  have FD := rFind_any x y h
  cases hq : Dc.findS D.l x y with
  | none =>
    have hn : Pm.numS D x y = (0, false) := by unfold Pm.numS; rw [hq]
    have hneg : Dc.rfind D.l x y < 0 := by unfold Dc.rfind; rw [hq]; dsimp only; split <;> omega
    generalize Dc.rfind D.l x y = rf at *
    replace FD := Lib.hid FD
    rw [hn]
    have hd : decide (rf < 0) = true := decide_eq_true hneg
    clear hn hq hneg h hf
    go_enter Tryz.func26, Tryz.ntmps26
    go_wp2_with fail
    refine (FD.out).mono ?_
    rintro e w1 ⟨rfl, rfl⟩
    go_wp2_with fail
    go_ret2
    exact ⟨rfl, rfl⟩
  | some k =>
    have hk := (Dc.find_some hq).2.1
    have hr : Dc.rfind D.l x y = (k : Int) := by unfold Dc.rfind; rw [hq]
    rw [hr] at FD
    have HS := fun ht => num_fine_some hf hq ht
    have HN : ¬ Pm.isNum (D.l.getD k Dc.en0).type = true → Pm.numS D x y = (0, false) := fun ht => by unfold Pm.numS; rw [hq]; dsimp only; rw [if_neg ht]
    obtain ⟨t0, t1⟩ := h.two
    have hlc := h.lcap
    obtain ⟨hlc1, hlc2⟩ := hlc
    have hcap : D.l.length ≤ vc ∧ vc ≤ 9223372036854775807 := ⟨h.own.rv.le, h.own.rv.cap⟩
    obtain ⟨hcap1, hcap2⟩ := hcap
    obtain ⟨b, o, A1, n1, c1, hA, hbB, hr0, hc⟩ := h.entry hk
    obtain ⟨A2, n2, c2, hA2, _, hgv, hr2, hcell, _⟩ := h.value hk
    have c3 := hc 3 _ rfl
    subst hA hA2
    try dsimp only at c3
    generalize D.v.getD k [] = dat at *
    generalize (D.l.getD k Dc.en0).type = ty at *
    have DE := Lib.hid (RDecode_any ty w hr2)
    replace FD := Lib.hid FD
    have i0 : (0 : Int) ≤ (k : Int) := by omega
    have i1 : (k : Int) < (D.l.length : Int) := by omega
    have i2 : decide ((k : Int) < 0) = false := decide_eq_false (by omega)
    clear hq hr h hf hc hr0 hr2
    by_cases hty : ty = 5 ∨ ty = 6 ∨ ty = 7
    · have HX := Lib.hid (HS (by unfold Pm.isNum; exact decide_eq_true hty))
      have H3 : ((ty == 5) = true ∧ (ty != 5) = false) ∨ ((ty != 5) = true ∧ (ty != 6) = false) ∨ ((ty != 5) = true ∧ (ty != 6) = true ∧ (ty != 7) = false) := by
        rcases hty with rfl | rfl | rfl
        · exact .inl ⟨rfl, rfl⟩
        · exact .inr (.inl ⟨rfl, rfl⟩)
        · exact .inr (.inr ⟨rfl, rfl, rfl⟩)
      clear HS HN hty
      rcases H3 with ⟨e0, e5⟩ | ⟨e5, e6⟩ | ⟨e5, e6, e7⟩
      all_goals
        go_enter Tryz.func26, Tryz.ntmps26
        go_wp2_with fail
        refine (FD.out).mono ?_
        rintro e w1 ⟨rfl, rfl⟩
        go_wp2_with fail
        refine (DE.out).mono ?_
        rintro e w1 ⟨rfl, rfl⟩
        go_wp2_with fail
        go_ret2
        rw [HX.out]
        exact ⟨rfl, rfl⟩
    · have HX := Lib.hid (HN (by unfold Pm.isNum; rw [decide_eq_false hty]; simp))
      have e5 : (ty != 5) = true := by simp only [bne_iff_ne, ne_eq]; omega
      have e6 : (ty != 6) = true := by simp only [bne_iff_ne, ne_eq]; omega
      have e7 : (ty != 7) = true := by simp only [bne_iff_ne, ne_eq]; omega
      clear HS HN hty DE
      go_enter Tryz.func26, Tryz.ntmps26
      go_wp2_with fail
      refine (FD.out).mono ?_
      rintro e w1 ⟨rfl, rfl⟩
      go_wp2_with fail
      go_ret2
      rw [HX.out]
      exact ⟨rfl, rfl⟩
set_option maxRecDepth 100000 in
set_option maxHeartbeats 4000000 in
theorem RWords_any (x : Int) (h : DRt 109 w F g gv lA lc vA vc xs vs D) (hf : Dc.Fine D) :
    Calls Tryz.prog 28 #[.pointer (some ⟨g, 0, none⟩), .int .i64 x] w (WordsP (Pm.wordsS D x) w) := by
  have NU0 := RNumber_any x 0 h hf
  have NUk := fun (w1 : World) (hb : Below w.heap.size w w1) (y : Int) => RNumber_any x y (h.below hb) hf
  obtain ⟨hc8, hce⟩ := Pm.cnt_le D x
  have hst := Pm.wordsK_step D x
  have hrg := fun y => Pm.num_range D x y
  have hnf := fun y => Pm.numD_fine hf x y
  have hws : Pm.wordsS D x = Pm.wordsK D x (Pm.cntS D x) := rfl
  have hK0 : Pm.wordsK D x 0 = [] := rfl
  have hln := Pm.wordsK_len D x
  rw [hws]
  rw [hnf 0] at hce
  have hst2 : ∀ k, Pm.wordsK D x (k + 1) = Pm.wordsK D x k ++ [((Pm.numS D x ((k : Int) + 1)).1).toNat] := fun k => by rw [hst k, hnf]
  clear hst hnf
  generalize Pm.numS D x = nd at *
  generalize Pm.wordsK D x = wk at *
  generalize Pm.cntS D x = cn at *
  have HST := Lib.hid hst2; have HRG := Lib.hid hrg; have HK0 := Lib.hid hK0; have HLN := Lib.hid hln
  replace NU0 := Lib.hid NU0; replace NUk := Lib.hid NUk
  have hr0 := (hrg 0).1
  clear h hf hws hst2 hrg hK0 hln
  generalize hz0 : nd 0 = u0 at *
  clear hz0
  obtain ⟨z0, bz⟩ := u0
  dsimp only at hce NU0 hr0
  rcases (show (8 < z0 ∧ cn = 8) ∨ (z0 = (cn : Int)) by omega) with ⟨h8, rfl⟩ | rfl
  · clear hce
    go_enter Tryz.func28, Tryz.ntmps28
    go_wp2_with fail
    refine (NU0.out).mono ?_
    rintro e w1 ⟨rfl, rfl⟩
    go_wp2_with fail
    go_loopw [7, 8] (fun v i wr => ∃ (k : Nat) (A1 : Option Addr) (c1 : Nat), k ≤ 8 ∧ i = .int .i64 ((k : Int) + 1) ∧ v = .slice A1 k c1 ∧ OS WdC wr w.heap.size 36 1 A1 k c1 (wk k) ∧ Below w.heap.size w wr) (fun _ i _ => 8 + 1 - (intOf i).toNat)
    case atStart => exact ⟨0, _, _, by omega, rfl, rfl, by rw [HK0.out]; exact OS.none_ _ _ _ _, Below.refl _ _⟩
    case round =>
      obtain ⟨k, A1, c1, hk, rfl, rfl, os, bb⟩ := hrel
      obtain ⟨wq, hwq⟩ : ∃ w, w = wr := ⟨wr, rfl⟩
      subst hwq
      by_cases hlt : k < 8
      · have i9 : (k : Int) + 1 ≤ z0 := by omega
        have NK := NUk.out wq bb ((k : Int) + 1)
        obtain ⟨hz1, hz2⟩ := HRG.out ((k : Int) + 1)
        have HS := HST.out k
        generalize nd ((k : Int) + 1) = u at *
        obtain ⟨z, bu⟩ := u
        dsimp only at NK hz1 hz2 HS
        have NK := Lib.hid NK; have HS := Lib.hid HS
        obtain ⟨z, rfl⟩ := Int.eq_ofNat_of_zero_le hz1
        have hzw : (z : Int) % 4294967296 = (z : Int) := Int.emod_eq_of_lt hz1 hz2
        clear hz1 hz2
        have HOS := Lib.hid os
        clear os
        clear h8 hc8 hr0
        go_wp2_with fail
        refine (NK.out).mono ?_
        rintro e _ ⟨rfl, rfl⟩
        go_wp2_with (at_builtin; refine wpList_apps etp (fun _ => WdC) rfl (.tmp 33) (.tmp 36) rfl rfl rfl rfl w.heap.size HOS.out z rfl rfl (fun u hu => by simp only [List.mem_cons, List.not_mem_nil, or_false] at hu; rw [hu]; rfl) (by omega) (by omega) bb.size (fun w1 A1 n1 c1 xs h g f cs hf => hf) ?_; intro A3 c3 w3 os3 b3 g3 _)
        have d3 := bb.trans b3
        go_wp2_with fail
        go_roundw
        case rel => exact ⟨k + 1, A3, c3, by omega, by go_num, rfl, by rw [HS.out]; exact os3, d3⟩
        case measure => simp [intOf] <;> omega
      · obtain rfl : k = 8 := by omega
        go_wp2_with fail
        go_ret
        exact ⟨A1, c1, by rw [HLN.out]; rfl, by rw [HLN.out]; exact os, bb⟩
  · clear hce
    go_enter Tryz.func28, Tryz.ntmps28
    go_wp2_with fail
    refine (NU0.out).mono ?_
    rintro e w1 ⟨rfl, rfl⟩
    go_wp2_with fail
    go_loopw [7, 8] (fun v i wr => ∃ (k : Nat) (A1 : Option Addr) (c1 : Nat), k ≤ cn ∧ i = .int .i64 ((k : Int) + 1) ∧ v = .slice A1 k c1 ∧ OS WdC wr w.heap.size 36 1 A1 k c1 (wk k) ∧ Below w.heap.size w wr) (fun _ i _ => cn + 1 - (intOf i).toNat)
    case atStart => exact ⟨0, _, _, by omega, rfl, rfl, by rw [HK0.out]; exact OS.none_ _ _ _ _, Below.refl _ _⟩
    case round =>
      obtain ⟨k, A1, c1, hk, rfl, rfl, os, bb⟩ := hrel
      obtain ⟨wq, hwq⟩ : ∃ w, w = wr := ⟨wr, rfl⟩
      subst hwq
      by_cases hlt : k < cn
      · have i9 : (k : Int) + 1 ≤ 8 := by omega
        have NK := NUk.out wq bb ((k : Int) + 1)
        obtain ⟨hz1, hz2⟩ := HRG.out ((k : Int) + 1)
        have HS := HST.out k
        generalize nd ((k : Int) + 1) = u at *
        obtain ⟨z, bu⟩ := u
        dsimp only at NK hz1 hz2 HS
        have NK := Lib.hid NK; have HS := Lib.hid HS
        obtain ⟨z, rfl⟩ := Int.eq_ofNat_of_zero_le hz1
        have hzw : (z : Int) % 4294967296 = (z : Int) := Int.emod_eq_of_lt hz1 hz2
        clear hz1 hz2
        have HOS := Lib.hid os
        clear os
        skip
        go_wp2_with fail
        refine (NK.out).mono ?_
        rintro e _ ⟨rfl, rfl⟩
        go_wp2_with (at_builtin; refine wpList_apps etp (fun _ => WdC) rfl (.tmp 33) (.tmp 36) rfl rfl rfl rfl w.heap.size HOS.out z rfl rfl (fun u hu => by simp only [List.mem_cons, List.not_mem_nil, or_false] at hu; rw [hu]; rfl) (by omega) (by omega) bb.size (fun w1 A1 n1 c1 xs h g f cs hf => hf) ?_; intro A3 c3 w3 os3 b3 g3 _)
        have d3 := bb.trans b3
        go_wp2_with fail
        go_roundw
        case rel => exact ⟨k + 1, A3, c3, by omega, by go_num, rfl, by rw [HS.out]; exact os3, d3⟩
        case measure => simp [intOf] <;> omega
      · obtain rfl : k = cn := by omega
        go_wp2_with fail
        go_ret
        exact ⟨A1, c1, by rw [HLN.out]; rfl, by rw [HLN.out]; exact os, bb⟩
set_option maxRecDepth 100000 in
set_option maxHeartbeats 4000000 in
theorem RRpdo_any (k : Int) (h : DRt 109 w F g gv lA lc vA vc xs vs D) (hf : Dc.Fine D) :
    Calls Tryz.prog 16 #[.pointer (some ⟨g, 0, none⟩), .int .i64 k] w (RpP (Pm.rpdoS D k) w) := by
  have b0 := alloc_one w (.cells #[.int .u32 0, .int .i64 0, .slice none 0 0] 52)
  have K0 := Blk.new w 52 #[.int .u32 0, .int .i64 0, .slice none 0 0]
  have F0 := K0.three
  by_cases hk : k < 0 ∨ 4 ≤ k
  · have ho : Pm.rpdoS D k = none := by unfold Pm.rpdoS; rw [if_pos hk]
    rw [ho]
    unfold RpP
    dsimp only
    clear h ho
    rcases hk with hk | hk
    all_goals
      go_enter Tryz.func16, Tryz.ntmps16
      go_wp2_with fail
      exact bodyPost_ret (v := .tuple #[.agg #[.int .u32 0, .int .i64 0, .slice none 0 0], .bool false]) (by simp [results, Tryz.results16, go_sem, F0]) rfl ⟨rfl, b0⟩
  · have hk1 : 0 ≤ k := by omega
    have hk2 : k < 4 := by omega
    have NU := RNumber_any (5120 + k) 1 (h.below b0) hf
    have ho : Pm.rpdoS D k = if (Pm.numS D (5120 + k) 1).2 = false then none else some ((Pm.numS D (5120 + k) 1).1.toNat, Pm.numD D (5120 + k) 2 255, Pm.wordsS D (5632 + k)) := by unfold Pm.rpdoS; rw [if_neg hk]
    have hnn := num_nat D (5120 + k) 1
    have N2 := fun (w1 : World) (hb : Below w.heap.size w w1) => RNumber_any (5120 + k) 2 (h.below hb) hf
    have WD := fun (w1 : World) (hb : Below w.heap.size w w1) => RWords_any (5632 + k) (h.below hb) hf
    have h2t : Pm.numD D (5120 + k) 2 255 = if (Pm.numS D (5120 + k) 2).2 = true then (Pm.numS D (5120 + k) 2).1 else 255 := rfl
    rw [ho, h2t]
    clear hk ho h2t h hf
    unfold WordsP at WD
    generalize Pm.numS D (5120 + k) 1 = q at *
    generalize Pm.numS D (5120 + k) 2 = q' at *
    generalize Pm.wordsS D (5632 + k) = ws at *
    obtain ⟨q1, q2⟩ := q
    obtain ⟨t, tb⟩ := q'
    dsimp only at hnn NU N2 ⊢
    obtain ⟨z, rfl, hz⟩ := hnn
    replace N2 := Lib.hid N2; replace WD := Lib.hid WD
    cases q2
    · simp only [if_true]
      unfold RpP
      dsimp only
      replace NU := Lib.hid NU
      go_enter Tryz.func16, Tryz.ntmps16
      go_wp2_with fail
      refine (NU.out).mono ?_
      rintro e _ ⟨rfl, rfl⟩
      go_wp2_with fail
      exact bodyPost_ret (v := .tuple #[.agg #[.int .u32 0, .int .i64 0, .slice none 0 0], .bool false]) (by simp [results, Tryz.results16, go_sem, F0]) rfl ⟨rfl, b0⟩
    · simp only [Bool.true_eq_false, if_false]
      unfold RpP
      dsimp only
      rw [show (z : Int).toNat = z by omega]
      have hzw : (z : Int) % 4294967296 = (z : Int) := Int.emod_eq_of_lt (by omega) (by omega)
      replace NU := Lib.hid NU
      clear hz
      cases tb
      · simp only [Bool.false_eq_true, if_false]
        go_enter Tryz.func16, Tryz.ntmps16
        go_wp2_with fail
        refine (NU.out).mono ?_
        rintro e _ ⟨rfl, rfl⟩
        go_wp2_with fail
        refine (N2.out _ b0).mono ?_
        rintro e _ ⟨rfl, rfl⟩
        go_wp2_with fail
        refine (WD.out _ b0).mono ?_
        rintro e w3 ⟨A3, c3, rfl, o3, b3⟩
        have d3 := below_step b0 b3 (Nat.le_refl _)
        have K3 := K0.later b3
        have F3 := K3.three
        have RS3 := (K3.store3 (.int .u32 (z : Int)) (.int .i64 255) (.slice A3 ws.length c3)).three
        have bs3 := below_set3 d3 (Nat.le_refl w.heap.size) 0 1 2 (.int .u32 (z : Int)) (.int .i64 255) (.slice A3 ws.length c3)
        have hl2 : w.heap.size < (w.alloc (.cells #[.int .u32 0, .int .i64 0, .slice none 0 0] 52)).heap.size := by simp
        clear F0
        go_wp2_with fail
        refine bodyPost_ret (v := .tuple #[.agg #[.int .u32 (z : Int), .int .i64 255, .slice A3 ws.length c3], .bool true]) (by simp [results, Tryz.results16, go_sem, RS3]) rfl ⟨A3, c3, rfl, ?_, bs3⟩
        exact OWp.more (base := (w.alloc (.cells #[.int .u32 0, .int .i64 0, .slice none 0 0] 52)).heap.size) (OWp.far (OWp.far (OWp.far o3 hl2 0 _) hl2 1 _) hl2 2 _) b0.size
      · simp only [if_true]
        go_enter Tryz.func16, Tryz.ntmps16
        go_wp2_with fail
        refine (NU.out).mono ?_
        rintro e _ ⟨rfl, rfl⟩
        go_wp2_with fail
        refine (N2.out _ b0).mono ?_
        rintro e _ ⟨rfl, rfl⟩
        go_wp2_with fail
        refine (WD.out _ b0).mono ?_
        rintro e w3 ⟨A3, c3, rfl, o3, b3⟩
        have d3 := below_step b0 b3 (Nat.le_refl _)
        have K3 := K0.later b3
        have F3 := K3.three
        have RS3 := (K3.store3 (.int .u32 (z : Int)) (.int .i64 t) (.slice A3 ws.length c3)).three
        have bs3 := below_set3 d3 (Nat.le_refl w.heap.size) 0 1 2 (.int .u32 (z : Int)) (.int .i64 t) (.slice A3 ws.length c3)
        have hl2 : w.heap.size < (w.alloc (.cells #[.int .u32 0, .int .i64 0, .slice none 0 0] 52)).heap.size := by simp
        clear F0
        go_wp2_with fail
        refine bodyPost_ret (v := .tuple #[.agg #[.int .u32 (z : Int), .int .i64 t, .slice A3 ws.length c3], .bool true]) (by simp [results, Tryz.results16, go_sem, RS3]) rfl ⟨A3, c3, rfl, ?_, bs3⟩
        exact OWp.more (base := (w.alloc (.cells #[.int .u32 0, .int .i64 0, .slice none 0 0] 52)).heap.size) (OWp.far (OWp.far (OWp.far o3 hl2 0 _) hl2 1 _) hl2 2 _) b0.size
set_option maxRecDepth 100000 in
set_option maxHeartbeats 4000000 in
theorem RTpdo_any (k : Int) (h : DRt 109 w F g gv lA lc vA vc xs vs D) (hf : Dc.Fine D) :
    Calls Tryz.prog 17 #[.pointer (some ⟨g, 0, none⟩), .int .i64 k] w (TpP (Pm.tpdoS D k) w) := by
  have b0 := alloc_one w (.cells #[.int .u32 0, .int .i64 0, .int .i64 0, .int .i64 0, .slice none 0 0] 55)
  have K0 := Blk.new w 55 #[.int .u32 0, .int .i64 0, .int .i64 0, .int .i64 0, .slice none 0 0]
  have F0 := K0.cin
  by_cases hk : k < 0 ∨ 4 ≤ k
  · have ho : Pm.tpdoS D k = none := by unfold Pm.tpdoS; rw [if_pos hk]
    rw [ho]
    unfold TpP
    dsimp only
    clear h ho
    rcases hk with hk | hk
    all_goals
      go_enter Tryz.func17, Tryz.ntmps17
      go_wp2_with fail
      exact bodyPost_ret (v := .tuple #[.agg #[.int .u32 0, .int .i64 0, .int .i64 0, .int .i64 0, .slice none 0 0], .bool false]) (by simp [results, Tryz.results17, go_sem, F0]) rfl ⟨rfl, b0⟩
  · have hk1 : 0 ≤ k := by omega
    have hk2 : k < 4 := by omega
    have NU := RNumber_any (6144 + k) 1 (h.below b0) hf
    have ho : Pm.tpdoS D k = if (Pm.numS D (6144 + k) 1).2 = false then none else some ((Pm.numS D (6144 + k) 1).1.toNat, Pm.numD D (6144 + k) 2 255, Pm.numD D (6144 + k) 3 0, Pm.numD D (6144 + k) 5 0, Pm.wordsS D (6656 + k)) := by unfold Pm.tpdoS; rw [if_neg hk]
    have hnn := num_nat D (6144 + k) 1
    have N2 := fun (w1 : World) (hb : Below w.heap.size w w1) => RNumber_any (6144 + k) 2 (h.below hb) hf
    have WD := fun (w1 : World) (hb : Below w.heap.size w w1) => RWords_any (6656 + k) (h.below hb) hf
    have h2t : Pm.numD D (6144 + k) 2 255 = if (Pm.numS D (6144 + k) 2).2 = true then (Pm.numS D (6144 + k) 2).1 else 255 := rfl
    have N3 := fun (w1 : World) (hb : Below w.heap.size w w1) => RNumber_any (6144 + k) 3 (h.below hb) hf
    have N5 := fun (w1 : World) (hb : Below w.heap.size w w1) => RNumber_any (6144 + k) 5 (h.below hb) hf
    have e3 := Pm.numD_fine hf (6144 + k) 3
    have e5 := Pm.numD_fine hf (6144 + k) 5
    rw [ho, h2t]
    clear hk ho h2t h hf
    unfold WordsP at WD
    rw [e3, e5]
    clear e3 e5
    generalize Pm.numS D (6144 + k) 3 = u3 at *
    generalize Pm.numS D (6144 + k) 5 = u5 at *
    obtain ⟨inh, bi⟩ := u3
    obtain ⟨ev, be⟩ := u5
    generalize Pm.numS D (6144 + k) 1 = q at *
    generalize Pm.numS D (6144 + k) 2 = q' at *
    generalize Pm.wordsS D (6656 + k) = ws at *
    obtain ⟨q1, q2⟩ := q
    obtain ⟨t, tb⟩ := q'
    dsimp only at hnn NU N2 ⊢
    obtain ⟨z, rfl, hz⟩ := hnn
    replace N2 := Lib.hid N2; replace WD := Lib.hid WD
    try dsimp only at N3 N5
    replace N3 := Lib.hid N3; replace N5 := Lib.hid N5
    cases q2
    · simp only [if_true]
      unfold TpP
      dsimp only
      replace NU := Lib.hid NU
      go_enter Tryz.func17, Tryz.ntmps17
      go_wp2_with fail
      refine (NU.out).mono ?_
      rintro e _ ⟨rfl, rfl⟩
      go_wp2_with fail
      exact bodyPost_ret (v := .tuple #[.agg #[.int .u32 0, .int .i64 0, .int .i64 0, .int .i64 0, .slice none 0 0], .bool false]) (by simp [results, Tryz.results17, go_sem, F0]) rfl ⟨rfl, b0⟩
    · simp only [Bool.true_eq_false, if_false]
      unfold TpP
      dsimp only
      rw [show (z : Int).toNat = z by omega]
      have hzw : (z : Int) % 4294967296 = (z : Int) := Int.emod_eq_of_lt (by omega) (by omega)
      replace NU := Lib.hid NU
      clear hz
      cases tb
      · simp only [Bool.false_eq_true, if_false]
        go_enter Tryz.func17, Tryz.ntmps17
        go_wp2_with fail
        refine (NU.out).mono ?_
        rintro e _ ⟨rfl, rfl⟩
        go_wp2_with fail
        refine (N2.out _ b0).mono ?_
        rintro e _ ⟨rfl, rfl⟩
        go_wp2_with fail
        refine (N3.out _ b0).mono ?_
        rintro e _ ⟨rfl, rfl⟩
        go_wp2_with fail
        refine (N5.out _ b0).mono ?_
        rintro e _ ⟨rfl, rfl⟩
        go_wp2_with fail
        refine (WD.out _ b0).mono ?_
        rintro e w3 ⟨A3, c3, rfl, o3, b3⟩
        have d3 := below_step b0 b3 (Nat.le_refl _)
        have K3 := K0.later b3
        have F3 := K3.cin
        have RS3 := (K3.store5 (.int .u32 (z : Int)) (.int .i64 255) (.int .i64 inh) (.int .i64 ev) (.slice A3 ws.length c3)).cin
        have bs3 := below_set5 d3 (Nat.le_refl w.heap.size) (.int .u32 (z : Int)) (.int .i64 255) (.int .i64 inh) (.int .i64 ev) (.slice A3 ws.length c3)
        have hl2 : w.heap.size < (w.alloc (.cells #[.int .u32 0, .int .i64 0, .int .i64 0, .int .i64 0, .slice none 0 0] 55)).heap.size := by simp
        clear F0
        go_wp2_with fail
        refine bodyPost_ret (v := .tuple #[.agg #[.int .u32 (z : Int), .int .i64 255, .int .i64 inh, .int .i64 ev, .slice A3 ws.length c3], .bool true]) (by simp [results, Tryz.results17, go_sem, RS3]) rfl ⟨A3, c3, rfl, ?_, bs3⟩
        exact OWp.more (base := (w.alloc (.cells #[.int .u32 0, .int .i64 0, .int .i64 0, .int .i64 0, .slice none 0 0] 55)).heap.size) (OWp.far (OWp.far (OWp.far (OWp.far (OWp.far o3 hl2 0 _) hl2 1 _) hl2 2 _) hl2 3 _) hl2 4 _) b0.size
      · simp only [if_true]
        go_enter Tryz.func17, Tryz.ntmps17
        go_wp2_with fail
        refine (NU.out).mono ?_
        rintro e _ ⟨rfl, rfl⟩
        go_wp2_with fail
        refine (N2.out _ b0).mono ?_
        rintro e _ ⟨rfl, rfl⟩
        go_wp2_with fail
        refine (N3.out _ b0).mono ?_
        rintro e _ ⟨rfl, rfl⟩
        go_wp2_with fail
        refine (N5.out _ b0).mono ?_
        rintro e _ ⟨rfl, rfl⟩
        go_wp2_with fail
        refine (WD.out _ b0).mono ?_
        rintro e w3 ⟨A3, c3, rfl, o3, b3⟩
        have d3 := below_step b0 b3 (Nat.le_refl _)
        have K3 := K0.later b3
        have F3 := K3.cin
        have RS3 := (K3.store5 (.int .u32 (z : Int)) (.int .i64 t) (.int .i64 inh) (.int .i64 ev) (.slice A3 ws.length c3)).cin
        have bs3 := below_set5 d3 (Nat.le_refl w.heap.size) (.int .u32 (z : Int)) (.int .i64 t) (.int .i64 inh) (.int .i64 ev) (.slice A3 ws.length c3)
        have hl2 : w.heap.size < (w.alloc (.cells #[.int .u32 0, .int .i64 0, .int .i64 0, .int .i64 0, .slice none 0 0] 55)).heap.size := by simp
        clear F0
        go_wp2_with fail
        refine bodyPost_ret (v := .tuple #[.agg #[.int .u32 (z : Int), .int .i64 t, .int .i64 inh, .int .i64 ev, .slice A3 ws.length c3], .bool true]) (by simp [results, Tryz.results17, go_sem, RS3]) rfl ⟨A3, c3, rfl, ?_, bs3⟩
        exact OWp.more (base := (w.alloc (.cells #[.int .u32 0, .int .i64 0, .int .i64 0, .int .i64 0, .slice none 0 0] 55)).heap.size) (OWp.far (OWp.far (OWp.far (OWp.far (OWp.far o3 hl2 0 _) hl2 1 _) hl2 2 _) hl2 3 _) hl2 4 _) b0.size
set_option maxHeartbeats 1000000 in
theorem RPeriod_any (h : DRt 109 w F g gv lA lc vA vc xs vs D) (hf : Dc.Fine D) : Calls Tryz.prog 24 #[.pointer (some ⟨g, 0, none⟩)] w fun e w' => e = .returned (.int .i64 (Pm.periodS D)) ∧ Below w.heap.size w w' := by
  have NU := Lib.hid (RNumber_any 4119 0 h hf)
  have e0 := Lib.hid (show Pm.periodS D = (Pm.numS D 4119 0).1 from Pm.numD_fine hf 4119 0)
  clear h hf
  go_enter Tryz.func24, Tryz.ntmps24
  go_wp2_with fail
  refine (NU.out).mono ?_
  rintro e _ ⟨rfl, rfl⟩
  go_wp2_with fail
  go_ret
  rw [e0.out]
  exact ⟨rfl, Below.refl _ _⟩
set_option maxHeartbeats 1000000 in
theorem RSync_any (h : DRt 109 w F g gv lA lc vA vc xs vs D) (hf : Dc.Fine D) : Calls Tryz.prog 20 #[.pointer (some ⟨g, 0, none⟩)] w (SyncP (Pm.syncS D) w) := by
  have NU := RNumber_any 4101 0 h hf
  have N2 := Lib.hid (RNumber_any 4121 0 h hf)
  have hnn := num_nat D 4101 0
  have e0 := Pm.numD_fine hf 4121 0
  unfold Pm.syncS
  rw [e0]
  clear h hf e0
  generalize Pm.numS D 4101 0 = q at *
  obtain ⟨q1, q2⟩ := q
  dsimp only at hnn NU ⊢
  obtain ⟨z, rfl, hz⟩ := hnn
  cases q2
  · simp only [if_true]
    unfold SyncP
    dsimp only
    replace NU := Lib.hid NU
    go_enter Tryz.func20, Tryz.ntmps20
    go_wp2_with fail
    refine (NU.out).mono ?_
    rintro e _ ⟨rfl, rfl⟩
    go_wp2_with fail
    go_ret3
    exact ⟨rfl, Below.refl _ _⟩
  · simp only [Bool.true_eq_false, if_false]
    unfold SyncP
    dsimp only
    rw [show (z : Int).toNat = z by omega]
    have hzw : (z : Int) % 4294967296 = (z : Int) := Int.emod_eq_of_lt (by omega) (by omega)
    replace NU := Lib.hid NU
    clear hz
    go_enter Tryz.func20, Tryz.ntmps20
    go_wp2_with fail
    refine (NU.out).mono ?_
    rintro e _ ⟨rfl, rfl⟩
    go_wp2_with fail
    refine (N2.out).mono ?_
    rintro e _ ⟨rfl, rfl⟩
    go_wp2_with fail
    go_ret3
    exact ⟨rfl, Below.refl _ _⟩
set_option maxHeartbeats 1000000 in
theorem RPeers_any (h : DRt 109 w F g gv lA lc vA vc xs vs D) (hf : Dc.Fine D) : Calls Tryz.prog 22 #[.pointer (some ⟨g, 0, none⟩)] w fun e w' => ∃ A c, e = .returned (.slice A (Pm.peersS D).length c) ∧ RW w' w'.heap.size A (Pm.peersS D).length c (Pm.peersS D) ∧ Below w.heap.size w w' := by
  have WD := RWords_any 4118 h hf
  unfold Pm.peersS
  have hl8 : (Pm.wordsS D 4118).length ≤ 8 := by unfold Pm.wordsS; rw [Pm.wordsK_len]; exact (Pm.cnt_le D 4118).1
  generalize Pm.wordsS D 4118 = ws at *
  unfold WordsP at WD
  replace WD := Lib.hid WD
  clear h hf
  by_cases h4 : 4 < ws.length
  · have HL := Lib.hid (show (ws.take 4).length = 4 by rw [List.length_take]; omega)
    go_enter Tryz.func22, Tryz.ntmps22
    go_wp2_with fail
    refine (WD.out).mono ?_
    rintro e w1 ⟨A1, c1, rfl, o1, b1⟩
    have hc1 := o1.rw.cap
    have hle := o1.rw.le
    obtain ⟨ys, y1, y2⟩ := id o1
    obtain ⟨q, rfl, _, _⟩ := y1.head (by omega)
    have HR := Lib.hid (RV.head4 o1.rw (show 4 ≤ ws.length by omega))
    clear y1 y2 o1
    go_wp2_with fail
    go_ret
    rw [HL.out]
    exact ⟨_, c1, rfl, HR.out, b1⟩
  · have HT := Lib.hid (show ws.take 4 = ws from List.take_of_length_le (by omega))
    go_enter Tryz.func22, Tryz.ntmps22
    go_wp2_with fail
    refine (WD.out).mono ?_
    rintro e w1 ⟨A1, c1, rfl, o1, b1⟩
    have HO := Lib.hid o1
    clear o1
    go_wp2_with fail
    go_ret
    rw [HT.out]
    exact ⟨A1, c1, rfl, (HO.out).rw, b1⟩
end
end Go.Proofs.YtgkhpebhhkdgoaaGreat
/-
  Walk: Same of layer 15's reference, of two lists of values that are alike.
  Conditions: none.
-/
namespace Go.Proofs.YtgkhpebhhkdgoaaGreat
set_option linter.unusedVariables false
set_option linter.unusedSimpArgs false
open Go.RowKit
set_option maxRecDepth 100000 in
set_option maxHeartbeats 4000000 in
theorem VSame_any {A : Option Addr} {n c B B0 : Nat} {fs : List Dc.Vl} {A' : Option Addr} {c' B' B1 : Nat} (w : World) (h : RVl w B B0 A n c fs) (h' : RVl w B' B1 A' n c' fs) (hB : B ≤ w.heap.size) (hB' : B' ≤ w.heap.size) (hB0 : B0 ≤ w.heap.size) (hB1 : B1 ≤ w.heap.size) :
    Calls Tryz.prog 29 #[.slice A n c, .slice A' n c'] w fun e w' => e = .returned (.bool true) ∧ Below w.heap.size w w' := by
  have hn := h.lt
  go_enter Tryz.func29, Tryz.ntmps29
  go_wp2_with fail
  go_loopw [5] (fun i wr => ∃ k : Nat, k ≤ n ∧ i = .int .i64 k ∧ Below w.heap.size w wr) (fun i _ => n - (intOf i).toNat)
  case atStart => exact ⟨0, by omega, rfl, Below.refl _ _⟩
  case round =>
    obtain ⟨k, hk, rfl, hbel⟩ := hrel
    by_cases hlt : k < n
    · obtain ⟨b, o, A1, n1, c1, rfl, hbB, q0, q1, q2, hr⟩ := h.at_ hlt
      obtain ⟨b', o', A2, n2, c2, rfl, hbB', q0', q1', q2', hr'⟩ := h'.at_ hlt
      generalize fs.getD k vl0 = f at *
      obtain ⟨fi, fr, fd⟩ := f
      dsimp only at *
      replace q0 := cell_regrown ((hbel.cell (p := ⟨b, o + k * 3, none⟩) (Nat.lt_of_lt_of_le hbB hB)).trans q0)
      replace q1 := cell_regrown ((hbel.cell (p := ⟨b, o + k * 3 + 1, none⟩) (Nat.lt_of_lt_of_le hbB hB)).trans q1)
      replace q2 := cell_regrown ((hbel.cell (p := ⟨b, o + k * 3 + 2, none⟩) (Nat.lt_of_lt_of_le hbB hB)).trans q2)
      replace q0' := cell_regrown ((hbel.cell (p := ⟨b', o' + k * 3, none⟩) (Nat.lt_of_lt_of_le hbB' hB')).trans q0')
      replace q1' := cell_regrown ((hbel.cell (p := ⟨b', o' + k * 3 + 1, none⟩) (Nat.lt_of_lt_of_le hbB' hB')).trans q1')
      replace q2' := cell_regrown ((hbel.cell (p := ⟨b', o' + k * 3 + 2, none⟩) (Nat.lt_of_lt_of_le hbB' hB')).trans q2')
      have e1 := convb_grow (hr.below (hbel.mono hB0)) (Nat.le_trans hB0 hbel.size)
      have e2 := convb_grow (hr'.below (hbel.mono hB1)) (Nat.le_trans hB1 hbel.size)
      have g1 : (fi != fi) = false := by simp
      have g2 : (fr != fr) = false := by simp
      have i0 : (0 : Int) ≤ (k : Int) := by omega
      have i1 : (k : Int) < (n : Int) := by omega
      clear hr hr'
      go_wp2_with fail
      refine region_later (by kernel_rfl) ?_
      refine phase_later (by kernel_rfl) 0 (below_drew _) [0, 1, 5, 6, 2, 7, 3, 8, 4, 9, 10, 11, 12, 13, 17, 18, 14, 19, 15, 20, 16, 21, 22, 23, 24, 25, 26, 31, 32, 27, 33, 28, 34, 29, 35, 30, 36, 37, 38] rfl (by kernel_rfl) ?_
      simp only [picks, nth]
      repeat (go_big_quiet_step (fail))
      refine wpQuiet_nil ?_
      refine phase_end (by kernel_rfl) ?_
      have d1 := below_step hbel (below_drew wr) (Nat.le_refl _)
      clear q0 q1 q2 q0' q1' q2' e1 e2
      go_wp2_with fail
      go_roundw
      case rel => exact ⟨k + 1, by omega, by go_num, d1⟩
      case measure => simp [intOf] <;> omega
    · obtain rfl : k = n := by omega
      go_wp2_with fail
      go_ret
      exact ⟨rfl, hbel⟩
end Go.Proofs.YtgkhpebhhkdgoaaGreat
/-
  Values of the call's own, in memory.
  Conditions: none.
-/
namespace Go.Proofs.YtgkhpebhhkdgoaaGreat
set_option linter.unusedVariables false
set_option linter.unusedSimpArgs false
open Go.RowKit
theorem etvl : ET Tryz.prog 23 26 3 40 (.agg #[.int .i64 0, .int .i64 0, .slice none 0 0]) := ⟨Tryz.underlying23, info_parts (by kernel_rfl), rfl, by decide⟩
/-- The cells of a value whose bytes are the call's own. -/
def VlW (w : World) (base : Nat) (f : Dc.Vl) (cs : List Value) : Prop := ∃ A n c, cs = [.int .i64 f.index, .int .i64 f.sub, .slice A n c] ∧ OW w base A n c f.data
theorem VlW.below {w w' : World} {base : Nat} {f : Dc.Vl} {cs : List Value} (hb : Below w.heap.size w w') (h : VlW w base f cs) : VlW w' base f cs := by
  obtain ⟨A, n, c, h1, h2⟩ := h
  exact ⟨A, n, c, h1, h2.below hb⟩
theorem VlW.more {w : World} {base base' : Nat} {f : Dc.Vl} {cs : List Value} (hb : base' ≤ base) (h : VlW w base f cs) : VlW w base' f cs := by
  obtain ⟨A, n, c, h1, h2⟩ := h
  exact ⟨A, n, c, h1, h2.more hb⟩
theorem VlW.beside {w w' : World} {base base' e size m c' : Nat} {A' : Option Addr} {xs : List Value} (h' : OV w base' e size A' m c' xs) (hne : e ≠ 5) (hg : w.grownBy w' (Value.slice A' m c').ownBlock) {f : Dc.Vl} {cs : List Value} (h : VlW w base f cs) : VlW w' base f cs := by
  obtain ⟨A, n, c, h1, h2⟩ := h
  exact ⟨A, n, c, h1, h2.beside h' hne hg⟩
theorem value_oneCell (x y : Int) (A : Option Addr) (m c : Nat) : ∀ u ∈ ([.int .i64 x, .int .i64 y, .slice A m c] : List Value), u.oneCell' = true := by
  intro u hu
  simp only [List.mem_cons, List.not_mem_nil, or_false] at hu
  rcases hu with rfl | rfl | rfl <;> rfl
end Go.Proofs.YtgkhpebhhkdgoaaGreat
/-
  Walks: Values of layer 15, and of its reference.
  Conditions: none.
-/
namespace Go.Proofs.YtgkhpebhhkdgoaaGreat.Dc
set_option linter.unusedVariables false
set_option linter.unusedSimpArgs false
/-- The first k values. -/
def valuesK (D : Dic) (k : Nat) : List Vl := (List.range k).map fun k => ⟨(D.l.getD k en0).index, (D.l.getD k en0).sub, D.v.getD k []⟩
theorem valuesK_step (D : Dic) (k : Nat) : valuesK D (k + 1) = valuesK D k ++ [⟨(D.l.getD k en0).index, (D.l.getD k en0).sub, D.v.getD k []⟩] := by
  unfold valuesK
  rw [List.range_succ, List.map_append]
  rfl
theorem valuesK_len (D : Dic) (k : Nat) : (valuesK D k).length = k := by unfold valuesK; simp
theorem valuesS_len (D : Dic) : (valuesS D).length = D.l.length := valuesK_len D D.l.length
end Go.Proofs.YtgkhpebhhkdgoaaGreat.Dc
namespace Go.Proofs.YtgkhpebhhkdgoaaGreat
set_option linter.unusedVariables false
set_option linter.unusedSimpArgs false
open Go.RowKit
/-- All values, in new memory. -/
def ValsP (D : Dc.Dic) (w : World) (e : Ending) (w' : World) : Prop := ∃ A c, e = .returned (.slice A D.l.length c) ∧ OS (VlW w' w.heap.size) w' w.heap.size 26 3 A D.l.length c (Dc.valuesS D) ∧ Below w.heap.size w w'
theorem Mp_getD {L : List (List UInt8)} (h : ∀ v ∈ L, v.length ≤ 1000000) (k : Nat) : (L.getD k []).length ≤ 1000000 := by
  rw [List.getD_eq_getElem?_getD]
  cases hi : L[k]? with
  | none => simp
  | some x => exact h _ (List.mem_of_getElem? hi)
set_option maxRecDepth 100000 in
set_option maxHeartbeats 4000000 in
theorem dVals_any {F : Nat → Prop} {w : World} {g gv lc vc : Nat} {la : Addr} {vA : Option Addr} {xs vs : List Value} {D : Dc.Dic} (h : DRt 112 w F g gv (some la) lc vA vc xs vs D) (hv : ∀ v ∈ D.v, v.length ≤ 1000000) : Calls Tryz.prog 30 #[.pointer (some ⟨g, 0, none⟩)] w (ValsP D w) := by
  obtain ⟨t0, t1⟩ := h.two
  have T0 := cell_regrown t0
  have T1 := cell_regrown t1
  have HLC := Lib.hid h.lcap
  have hcap : D.l.length ≤ vc ∧ vc ≤ 9223372036854775807 := ⟨h.own.rv.le, h.own.rv.cap⟩
  obtain ⟨hcap1, hcap2⟩ := hcap
  obtain ⟨hlc1, hlc2⟩ := h.lcap
  have hgl := h.blk.lt
  have h96 := h.few
  have LN := Lib.hid (dLen_any h)
  go_enter Tryz.func30, Tryz.ntmps30
  go_wp2_with fail
  refine (LN.out).mono ?_
  rintro e w2 ⟨rfl, rfl⟩
  go_wp2_with fail
  go_loopw [3, 7] (fun v i wr => ∃ (k : Nat) (A1 : Option Addr) (c1 : Nat), k ≤ D.l.length ∧ i = .int .i64 k ∧ v = .slice A1 k c1 ∧ OS (VlW wr w.heap.size) wr w.heap.size 26 3 A1 k c1 (Dc.valuesK D k) ∧ Below w.heap.size w wr) (fun _ i _ => D.l.length - (intOf i).toNat)
  case atStart => exact ⟨0, _, _, by omega, rfl, rfl, OS.none_ _ _ _ _, Below.refl _ _⟩
  case round =>
    obtain ⟨k, A1, c1, hk, rfl, rfl, os, bb⟩ := hrel
    have t0' := (bb.cell (p := ⟨g, 0, none⟩) hgl).trans t0
    by_cases hlt : k < D.l.length
    · obtain ⟨b, oo, A0, n0, c0, hA0, hbB, hr0, hc⟩ := h.entry hlt
      obtain ⟨A2, n2, c2, hA2, _, hg, hr2, hcell, _⟩ := h.value hlt
      have hnx := Dc.valuesK_step D k
      have hln := Mp_getD hv k
      have hl2 := hr2.len
      have q0 := cell_regrown (hc 0 _ rfl)
      have q1 := cell_regrown (hc 1 _ rfl)
      have q2 := cell_regrown hcell
      simp only [Nat.add_zero] at q0
      try dsimp only at q0 q1
      injection hA0 with hA0
      subst hA0 hA2
      generalize D.v.getD k [] = dat at *
      generalize (D.l.getD k Dc.en0).index = ixx at *
      generalize (D.l.getD k Dc.en0).sub = sbx at *
      subst hl2
      have HN := Lib.hid hnx
      have OWN := Lib.hid (fun (w2 : World) (hb : Below w.heap.size w w2) => down_any w2 (hr2.below hb) (by omega) hb.size)
      have i0 : (0 : Int) ≤ (k : Int) := by omega
      have i1 : (k : Int) < (D.l.length : Int) := by omega
      have bd := bb.trans ((below_drew wr).mono bb.size)
      clear hnx hc hr0 hr2 hcell
      go_wp2_with fail
      refine region_since (w0 := w) (by kernel_rfl) ?_
      refine phase_later (by kernel_rfl) 5 bd [0, 1, 5, 9, 13, 17, 21, 2, 10, 18, 3, 11, 19, 4, 12, 20, 6, 14, 22, 7, 15, 23, 8, 16] rfl (by kernel_rfl) ?_
      simp only [picks, nth]
      repeat (go_big_quiet_step (fail))
      refine wpQuiet_nil ?_
      refine phase_op 24 4 rfl (by kernel_rfl) (by decide) ?_
      simp only [nth]
      go_wp2_with fail
      refine (OWN.out _ bd).mono ?_
      rintro e w3 ⟨A3, c3, rfl, o3, b3⟩
      skip
      have b3' : Below wr.heap.size wr w3 := (below_drew wr).trans b3
      have d3 := below_step bb b3' (Nat.le_refl _)
      have os3 := os.below b3' (R' := VlW w3 w.heap.size) fun _ _ h => h.below b3'
      have ow3 := (o3.ow).more (base' := w.heap.size) bd.size
      clear os o3
      go_wp2_with fail
      refine behind_since d3 ?_
      refine phase_later (by kernel_rfl) 3 d3 [25] rfl (by kernel_rfl) ?_
      simp only [picks, nth]
      repeat (go_big_quiet_step (fail))
      refine wpQuiet_nil ?_
      refine phase_op 26 2 rfl (by kernel_rfl) (by decide) ?_
      simp only [nth]
      have b4 := alloc_one w3 (.cells #[.int .i64 ixx, .int .i64 sbx, .slice A3 dat.length c3] 26)
      have d4 := below_step d3 b4 (Nat.le_refl _)
      have os4 := os3.below b4 (R' := VlW _ w.heap.size) fun _ _ h => h.below b4
      have hnew := RV.new w3 26 (size := 3) (cs := [.int .i64 ixx, .int .i64 sbx, .slice A3 dat.length c3]) rfl
      have hf4 : VlW (w3.alloc (.cells #[.int .i64 ixx, .int .i64 sbx, .slice A3 dat.length c3] 26)) w.heap.size ⟨ixx, sbx, dat⟩ [.int .i64 ixx, .int .i64 sbx, .slice A3 dat.length c3] := ⟨A3, dat.length, c3, rfl, ow3.below b4⟩
      go_wp2_with fail
      refine behind_since d4 ?_
      refine phase_op 27 1 rfl (by kernel_rfl) (by decide) ?_
      simp only [nth]
      go_wp2_with (at_builtin; refine wpList_apps2 etvl (fun w1 => VlW w1 w.heap.size) rfl (.tmp 10) (.tmp 36) rfl rfl rfl w.heap.size os4 ⟨ixx, sbx, dat⟩ hnew hf4 (value_oneCell _ _ _ _ _) (by omega) (by omega) d4.size (fun w1 A1 n1 c1 xs h g f cs hf => hf.beside h (by decide) g) ?_; intro A5 c5 w5 o5 b5 g5 _)
      have d5 := d4.trans b5
      refine behind_since d5 ?_
      refine phase_later (by kernel_rfl) 0 d5 [28] rfl (by kernel_rfl) ?_
      simp only [picks, nth]
      repeat (go_big_quiet_step (fail))
      refine wpQuiet_nil ?_
      refine phase_end (by kernel_rfl) ?_
      clear os3 os4 hnew hf4
      go_wp2_with fail
      go_roundw
      case rel => exact ⟨k + 1, A5, c5, by omega, by go_num, rfl, by rw [HN.out]; exact o5, d5⟩
      case measure => simp [intOf] <;> omega
    · obtain rfl : k = D.l.length := by omega
      go_wp2_with fail
      go_ret
      exact ⟨A1, c1, rfl, os, bb⟩
set_option maxRecDepth 100000 in
set_option maxHeartbeats 4000000 in
theorem rVals_any {F : Nat → Prop} {w : World} {g gv lc vc : Nat} {lA : Option Addr} {vA : Option Addr} {xs vs : List Value} {D : Dc.Dic} (h : DRt 109 w F g gv lA lc vA vc xs vs D) (hv : ∀ v ∈ D.v, v.length ≤ 1000000) : Calls Tryz.prog 31 #[.pointer (some ⟨g, 0, none⟩)] w (ValsP D w) := by
  obtain ⟨t0, t1⟩ := h.two
  have T0 := cell_regrown t0
  have T1 := cell_regrown t1
  have HLC := Lib.hid h.lcap
  have hcap : D.l.length ≤ vc ∧ vc ≤ 9223372036854775807 := ⟨h.own.rv.le, h.own.rv.cap⟩
  obtain ⟨hcap1, hcap2⟩ := hcap
  obtain ⟨hlc1, hlc2⟩ := h.lcap
  have hgl := h.blk.lt
  have h96 := h.few
  go_enter Tryz.func31, Tryz.ntmps31
  go_wp2_with fail
  go_loopw [3, 4] (fun v i wr => ∃ (k : Nat) (A1 : Option Addr) (c1 : Nat), k ≤ D.l.length ∧ i = .int .i64 k ∧ v = .slice A1 k c1 ∧ OS (VlW wr w.heap.size) wr w.heap.size 26 3 A1 k c1 (Dc.valuesK D k) ∧ Below w.heap.size w wr) (fun _ i _ => D.l.length - (intOf i).toNat)
  case atStart => exact ⟨0, _, _, by omega, rfl, rfl, OS.none_ _ _ _ _, Below.refl _ _⟩
  case round =>
    obtain ⟨k, A1, c1, hk, rfl, rfl, os, bb⟩ := hrel
    have t0' := (bb.cell (p := ⟨g, 0, none⟩) hgl).trans t0
    by_cases hlt : k < D.l.length
    · obtain ⟨b, oo, A0, n0, c0, hA0, hbB, hr0, hc⟩ := h.entry hlt
      obtain ⟨A2, n2, c2, hA2, _, hg, hr2, hcell, _⟩ := h.value hlt
      have hnx := Dc.valuesK_step D k
      have hln := Mp_getD hv k
      have hl2 := hr2.len
      have q0 := cell_regrown (hc 0 _ rfl)
      have q1 := cell_regrown (hc 1 _ rfl)
      have q2 := cell_regrown hcell
      simp only [Nat.add_zero] at q0
      try dsimp only at q0 q1
      skip
      subst hA0 hA2
      generalize D.v.getD k [] = dat at *
      generalize (D.l.getD k Dc.en0).index = ixx at *
      generalize (D.l.getD k Dc.en0).sub = sbx at *
      subst hl2
      have HN := Lib.hid hnx
      have OWN := Lib.hid (fun (w2 : World) (hb : Below w.heap.size w w2) => Join_any w2 (RB.none_ (B := 0)) (hr2.below hb) (by omega) (Nat.zero_le _) hb.size)
      have i0 : (0 : Int) ≤ (k : Int) := by omega
      have i1 : (k : Int) < (D.l.length : Int) := by omega
      have bd := bb.trans ((below_drew wr).mono bb.size)
      clear hnx hc hr0 hr2 hcell
      go_wp2_with fail
      refine region_since (w0 := w) (by kernel_rfl) ?_
      refine phase_later (by kernel_rfl) 5 bd [0, 1, 5, 9, 13, 17, 21, 2, 10, 18, 3, 11, 19, 4, 12, 20, 6, 14, 22, 7, 15, 23, 8, 16] rfl (by kernel_rfl) ?_
      simp only [picks, nth]
      repeat (go_big_quiet_step (fail))
      refine wpQuiet_nil ?_
      refine phase_op 24 4 rfl (by kernel_rfl) (by decide) ?_
      simp only [nth]
      go_wp2_with fail
      refine (OWN.out _ bd).mono ?_
      rintro e w3 ⟨A3, c3, rfl, o3, b3⟩
      rw [List.nil_append] at o3; simp only [Nat.zero_add] at o3 ⊢
      have b3' : Below wr.heap.size wr w3 := (below_drew wr).trans b3
      have d3 := below_step bb b3' (Nat.le_refl _)
      have os3 := os.below b3' (R' := VlW w3 w.heap.size) fun _ _ h => h.below b3'
      have ow3 := (o3.ow).more (base' := w.heap.size) bd.size
      clear os o3
      go_wp2_with fail
      refine behind_since d3 ?_
      refine phase_later (by kernel_rfl) 3 d3 [25] rfl (by kernel_rfl) ?_
      simp only [picks, nth]
      repeat (go_big_quiet_step (fail))
      refine wpQuiet_nil ?_
      refine phase_op 26 2 rfl (by kernel_rfl) (by decide) ?_
      simp only [nth]
      have b4 := alloc_one w3 (.cells #[.int .i64 ixx, .int .i64 sbx, .slice A3 dat.length c3] 26)
      have d4 := below_step d3 b4 (Nat.le_refl _)
      have os4 := os3.below b4 (R' := VlW _ w.heap.size) fun _ _ h => h.below b4
      have hnew := RV.new w3 26 (size := 3) (cs := [.int .i64 ixx, .int .i64 sbx, .slice A3 dat.length c3]) rfl
      have hf4 : VlW (w3.alloc (.cells #[.int .i64 ixx, .int .i64 sbx, .slice A3 dat.length c3] 26)) w.heap.size ⟨ixx, sbx, dat⟩ [.int .i64 ixx, .int .i64 sbx, .slice A3 dat.length c3] := ⟨A3, dat.length, c3, rfl, ow3.below b4⟩
      go_wp2_with fail
      refine behind_since d4 ?_
      refine phase_op 27 1 rfl (by kernel_rfl) (by decide) ?_
      simp only [nth]
      go_wp2_with (at_builtin; refine wpList_apps2 etvl (fun w1 => VlW w1 w.heap.size) rfl (.tmp 14) (.tmp 40) rfl rfl rfl w.heap.size os4 ⟨ixx, sbx, dat⟩ hnew hf4 (value_oneCell _ _ _ _ _) (by omega) (by omega) d4.size (fun w1 A1 n1 c1 xs h g f cs hf => hf.beside h (by decide) g) ?_; intro A5 c5 w5 o5 b5 g5 _)
      have d5 := d4.trans b5
      refine behind_since d5 ?_
      refine phase_later (by kernel_rfl) 0 d5 [28] rfl (by kernel_rfl) ?_
      simp only [picks, nth]
      repeat (go_big_quiet_step (fail))
      refine wpQuiet_nil ?_
      refine phase_end (by kernel_rfl) ?_
      clear os3 os4 hnew hf4
      go_wp2_with fail
      go_roundw
      case rel => exact ⟨k + 1, A5, c5, by omega, by go_num, rfl, by rw [HN.out]; exact o5, d5⟩
      case measure => simp [intOf] <;> omega
    · obtain rfl : k = D.l.length := by omega
      go_wp2_with fail
      go_ret
      exact ⟨A1, c1, rfl, os, bb⟩
end Go.Proofs.YtgkhpebhhkdgoaaGreat
