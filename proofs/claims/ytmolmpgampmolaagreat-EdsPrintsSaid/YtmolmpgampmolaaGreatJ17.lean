/-
  Texts joined: EdsFin, TypEnc, LexNum.
  Conditions: none.
-/
import Derived.Test.YtmolmpgampmolaaGreatJ06
import Derived.Test.YtmolmpgampmolaaGreatJ09
import Derived.Test.YtmolmpgampmolaaGreatJ13
import Derived.Test.YtmolmpgampmolaaGreatJ16
/-
  Walk: finish of layer 17.
  Conditions: none.
-/
namespace Go.Proofs.YtmolmpgampmolaaGreat
set_option linter.unusedVariables false
set_option linter.unusedSimpArgs false
open Go.RowKit Go.Sort
/-- What 'finish' tells, and the entry behind it. -/
def FinP (es : List Ent.En) (e : Ent.En) (v : List UInt8) (q : Nat) (w : World) (x : Ending) (w' : World) : Prop :=
  x = .returned (.int .i64 (Ed.finS es e v)) ∧ Mv (fun b => b = q) w w' ∧ (Ed.finS es e v = 0 → ∃ A1 c1, Blk w' q 31 #[.int .i64 e.index, .int .i64 e.sub, .string (T e.name), .int .i64 e.type, .int .i64 e.access, .bool e.map, .bool e.store, .int .i64 e.max, .int .i64 e.low, .int .i64 e.high, .slice A1 (Ty.parseS e.type v).1.length c1] ∧ OB w' w.heap.size A1 (Ty.parseS e.type v).1.length c1 (Ty.parseS e.type v).1)
set_option maxRecDepth 100000 in
set_option maxHeartbeats 8000000 in
theorem finish_any {w : World} {q n c : Nat} {A : Option Addr} {es : List Ent.En} (e : Ent.En) (v : List UInt8) (K : Blk w q 31 #[.int .i64 e.index, .int .i64 e.sub, .string (T e.name), .int .i64 e.type, .int .i64 e.access, .bool e.map, .bool e.store, .int .i64 e.max, .int .i64 e.low, .int .i64 e.high, .slice none 0 0]) (hr : REn w q q A n c es) (hv : v.length ≤ 100000) (hn : e.name.length ≤ 100000) :
    Calls Tryz.prog 19 #[.slice A n c, .pointer (some ⟨q, 0, none⟩), .string (T v)] w (FinP es e v q w) := by
  have hq := K.lt
  have PA := fun w => Parse_anyT e.type v w hv
  have hfin : Ed.finS es e v = if (Ty.parseS e.type v).2 ≠ 0 then (Ty.parseS e.type v).2 else if Ent.rightS { e with dflt := (Ty.parseS e.type v).1 } ≠ 0 then Ent.rightS { e with dflt := (Ty.parseS e.type v).1 } else if es.length = 96 then 3 else if 0 < es.length ∧ Ent.befB (es.getD (es.length - 1) Dc.en0) e = false then 16 else 0 := rfl
  unfold FinP
  have hl := hr.len
  subst hl
  obtain ⟨ix, sb, nm, ty, ac, mp, st, mx, lo, hi, df⟩ := e
  dsimp only at K PA hfin hn ⊢
  have RG := fun (w : World) (A1 : Option Addr) (n1 c1 B : Nat) (b : List UInt8) (hb : RB w B A1 n1 c1 b) (hB : B ≤ w.heap.size) => Right_any ⟨ix, sb, nm, ty, ac, mp, st, mx, lo, hi, b⟩ w hb hB (by dsimp only; omega)
  unfold enV at RG
  unfold BP at PA
  generalize Ty.parseS ty v = pp at *
  obtain ⟨pb, pe⟩ := pp
  dsimp only at PA hfin RG ⊢
  generalize Ed.finS es ⟨ix, sb, nm, ty, ac, mp, st, mx, lo, hi, df⟩ v = fs at *
  replace PA := Lib.hid PA
  have F0 := K.eleven
  by_cases hpe : pe = 0
  case neg =>
    rw [if_pos hpe] at hfin
    subst hfin
    have e1 : (fs == 0) = false := by simpa using hpe
    have e2 : (fs != 0) = true := by simpa using hpe
    have HP := Lib.hid hpe
    clear hpe hr RG
    go_enter Tryz.func19, Tryz.ntmps19
    go_wp2_with fail
    refine (PA.out _).mono ?_
    rintro e w1 ⟨A1, c1, rfl, o1, b1⟩
    go_wp2_with fail
    go_ret
    exact ⟨rfl, Mv.of_new b1 _, fun h => absurd h HP.out⟩
  subst hpe
  simp only [ne_eq, not_true_eq_false, if_false] at hfin
  have RG1 := fun (w : World) (A1 : Option Addr) (c1 B : Nat) (hb : RB w B A1 pb.length c1 pb) (hB : B ≤ w.heap.size) => RG w A1 pb.length c1 B pb hb hB
  clear RG
  generalize Ent.rightS ⟨ix, sb, nm, ty, ac, mp, st, mx, lo, hi, pb⟩ = rs at *
  by_cases hrs : rs = 0
  case neg =>
    rw [if_pos hrs] at hfin
    subst hfin
    have e1 : (fs == 0) = false := by simpa using hrs
    have e2 : (fs != 0) = true := by simpa using hrs
    have HP := Lib.hid hrs
    clear hrs hr
    replace RG1 := Lib.hid RG1
    go_enter Tryz.func19, Tryz.ntmps19
    go_wp2_with fail
    refine (PA.out _).mono ?_
    rintro e w1 ⟨A1, c1, rfl, o1, b1⟩
    have K1 := K.later b1
    have F1 := K1.eleven
    have K2 : Blk (w1.setCell ⟨q, 10, none⟩ (.slice A1 pb.length c1)) q 31 #[.int .i64 ix, .int .i64 sb, .string (T nm), .int .i64 ty, .int .i64 ac, .bool mp, .bool st, .int .i64 mx, .int .i64 lo, .int .i64 hi, .slice A1 pb.length c1] := K1.set_ 10 _
    have F2 := K2.eleven
    have m2 := Mv.setCell w1 ⟨q, 10, none⟩ (.slice A1 pb.length c1)
    have o2 : OB (w1.setCell ⟨q, 10, none⟩ (.slice A1 pb.length c1)) w.heap.size A1 pb.length c1 pb := OV.off (show OV w1 w.heap.size 5 1 A1 pb.length c1 _ from o1) K1 (by decide)
    have M2 : Mv (fun b => b = q) w (w1.setCell ⟨q, 10, none⟩ (.slice A1 pb.length c1)) := (Mv.of_new b1 (fun b => b = q)).trans m2 fun _ _ e => e
    have RG2 := Lib.hid (RG1.out _ A1 c1 _ o2.rb (Nat.le_refl _))
    clear F0 K K1 K2 o1 o2 RG1 b1 m2
    go_wp2_with fail
    refine (RG2.out).mono ?_
    rintro e w3 ⟨rfl, b3⟩
    go_wp2_with fail
    go_ret
    exact ⟨rfl, M2.trans (Mv.of_new b3 (fun b => b = q)) fun _ _ e => e, fun h => absurd h HP.out⟩
  subst hrs
  simp only [ne_eq, not_true_eq_false, if_false] at hfin
  replace RG1 := Lib.hid RG1
  have hlt := hr.lt
  by_cases h96 : es.length = 96
  · rw [if_pos h96] at hfin
    subst hfin
    have e96 : ((es.length : Int) == 96) = true := by rw [h96]; rfl
    clear h96 hr
    go_enter Tryz.func19, Tryz.ntmps19
    go_wp2_with fail
    refine (PA.out _).mono ?_
    rintro e w1 ⟨A1, c1, rfl, o1, b1⟩
    have K1 := K.later b1
    have F1 := K1.eleven
    have K2 : Blk (w1.setCell ⟨q, 10, none⟩ (.slice A1 pb.length c1)) q 31 #[.int .i64 ix, .int .i64 sb, .string (T nm), .int .i64 ty, .int .i64 ac, .bool mp, .bool st, .int .i64 mx, .int .i64 lo, .int .i64 hi, .slice A1 pb.length c1] := K1.set_ 10 _
    have F2 := K2.eleven
    have m2 := Mv.setCell w1 ⟨q, 10, none⟩ (.slice A1 pb.length c1)
    have o2 : OB (w1.setCell ⟨q, 10, none⟩ (.slice A1 pb.length c1)) w.heap.size A1 pb.length c1 pb := OV.off (show OV w1 w.heap.size 5 1 A1 pb.length c1 _ from o1) K1 (by decide)
    have M2 : Mv (fun b => b = q) w (w1.setCell ⟨q, 10, none⟩ (.slice A1 pb.length c1)) := (Mv.of_new b1 (fun b => b = q)).trans m2 fun _ _ e => e
    have RG2 := Lib.hid (RG1.out _ A1 c1 _ o2.rb (Nat.le_refl _))
    clear F0 K K1 K2 o1 o2 RG1 b1 m2
    go_wp2_with fail
    refine (RG2.out).mono ?_
    rintro e w3 ⟨rfl, b3⟩
    go_wp2_with fail
    go_ret
    exact ⟨rfl, M2.trans (Mv.of_new b3 (fun b => b = q)) fun _ _ e => e, fun h => by cases h⟩
  rw [if_neg h96] at hfin
  have e96 : ((es.length : Int) == 96) = false := by rw [beq_eq_false_iff_ne]; omega
  by_cases h0 : 0 < es.length
  case neg =>
    rw [if_neg (fun h => h0 h.1)] at hfin
    subst hfin
    have e0 : es.length = 0 := by omega
    have hd0 : (decide (0 < (es.length : Int))) = false := decide_eq_false (by omega)
    clear h96 hr h0
    go_enter Tryz.func19, Tryz.ntmps19
    go_wp2_with fail
    refine (PA.out _).mono ?_
    rintro e w1 ⟨A1, c1, rfl, o1, b1⟩
    have K1 := K.later b1
    have F1 := K1.eleven
    have K2 : Blk (w1.setCell ⟨q, 10, none⟩ (.slice A1 pb.length c1)) q 31 #[.int .i64 ix, .int .i64 sb, .string (T nm), .int .i64 ty, .int .i64 ac, .bool mp, .bool st, .int .i64 mx, .int .i64 lo, .int .i64 hi, .slice A1 pb.length c1] := K1.set_ 10 _
    have F2 := K2.eleven
    have m2 := Mv.setCell w1 ⟨q, 10, none⟩ (.slice A1 pb.length c1)
    have o2 : OB (w1.setCell ⟨q, 10, none⟩ (.slice A1 pb.length c1)) w.heap.size A1 pb.length c1 pb := OV.off (show OV w1 w.heap.size 5 1 A1 pb.length c1 _ from o1) K1 (by decide)
    have M2 : Mv (fun b => b = q) w (w1.setCell ⟨q, 10, none⟩ (.slice A1 pb.length c1)) := (Mv.of_new b1 (fun b => b = q)).trans m2 fun _ _ e => e
    have RG2 := Lib.hid (RG1.out _ A1 c1 _ o2.rb (Nat.le_refl _))
    clear F0 K K1 o1 RG1 b1 m2
    go_wp2_with fail
    refine (RG2.out).mono ?_
    rintro e w3 ⟨rfl, b3⟩
    have K3 := K2.later b3
    have o3 := o2.below b3
    have M3 := M2.trans (Mv.of_new b3 (fun b => b = q)) fun _ _ e => e
    clear F2 K2 o2 RG2 F1
    go_wp2_with fail
    have b5 := below_drew w3
    go_quiet (fail)
    go_wp2_with fail
    go_ret
    refine ⟨rfl, M3.trans (Mv.of_new (below_drewN (Below.refl _ _) nq) (fun b => b = q)) fun _ _ e => e, fun _ => ⟨A1, c1, K3.later (below_drewN (Below.refl _ _) nq), o3.below (below_drewN (Below.refl _ _) nq)⟩⟩
  have hEN := en_oneCell
  obtain ⟨b, o, A2, n2, c2, rfl, hbB, hr2, hc2⟩ := hr.at_ (i := es.length - 1) (by omega)
  have hbw : b < w.heap.size := by omega
  have hd0 : decide (0 < es.length) = true := decide_eq_true h0
  have i5 : IntKind.i64.wrap ((es.length : Int) - 1) = (es.length : Int) - 1 := IntWalk.i64_in _ (by omega)
  have i6 : ((es.length : Int) - 1).toNat = es.length - 1 := by omega
  have i7 : (0 : Int) ≤ (es.length : Int) - 1 := by omega
  have i8 : (es.length : Int) - 1 < (es.length : Int) := by omega
  generalize es.getD (es.length - 1) Dc.en0 = e1 at *
  obtain ⟨ix', sb', nm', ty', ac', mp', st', mx', lo', hi', df'⟩ := e1
  have BF := fun A1 c1 w => Before_any ⟨ix', sb', nm', ty', ac', mp', st', mx', lo', hi', df'⟩ ⟨ix, sb, nm, ty, ac, mp, st, mx, lo, hi, df⟩ A2 A1 n2 c2 pb.length c1 w
  unfold enV at BF
  dsimp only at BF
  have q0 := hc2 0 _ rfl
  have q1 := hc2 1 _ rfl
  have q2 := hc2 2 _ rfl
  have q3 := hc2 3 _ rfl
  have q4 := hc2 4 _ rfl
  have q5 := hc2 5 _ rfl
  have q6 := hc2 6 _ rfl
  have q7 := hc2 7 _ rfl
  have q8 := hc2 8 _ rfl
  have q9 := hc2 9 _ rfl
  have q10 := hc2 10 _ rfl
  simp only [Nat.add_zero] at q0
  dsimp only at q0 q1 q2 q3 q4 q5 q6 q7 q8 q9 q10
  generalize hbf : Ent.befB ⟨ix', sb', nm', ty', ac', mp', st', mx', lo', hi', df'⟩ ⟨ix, sb, nm, ty, ac, mp, st, mx, lo, hi, df⟩ = bf at *
  replace BF := Lib.hid BF
  have hbq : b ≠ q := by omega
  clear hc2 hr2 hbf h96 hr hEN
  have hkp := Lib.hid h0
  clear h0
  cases bf
  case false =>
    rw [if_pos ⟨hkp.out, rfl⟩] at hfin
    subst hfin
    go_enter Tryz.func19, Tryz.ntmps19
    go_wp2_with fail
    refine (PA.out _).mono ?_
    rintro e w1 ⟨A1, c1, rfl, o1, b1⟩
    have K1 := K.later b1
    have F1 := K1.eleven
    have K2 : Blk (w1.setCell ⟨q, 10, none⟩ (.slice A1 pb.length c1)) q 31 #[.int .i64 ix, .int .i64 sb, .string (T nm), .int .i64 ty, .int .i64 ac, .bool mp, .bool st, .int .i64 mx, .int .i64 lo, .int .i64 hi, .slice A1 pb.length c1] := K1.set_ 10 _
    have F2 := K2.eleven
    have m2 := Mv.setCell w1 ⟨q, 10, none⟩ (.slice A1 pb.length c1)
    have o2 : OB (w1.setCell ⟨q, 10, none⟩ (.slice A1 pb.length c1)) w.heap.size A1 pb.length c1 pb := OV.off (show OV w1 w.heap.size 5 1 A1 pb.length c1 _ from o1) K1 (by decide)
    have M2 : Mv (fun b => b = q) w (w1.setCell ⟨q, 10, none⟩ (.slice A1 pb.length c1)) := (Mv.of_new b1 (fun b => b = q)).trans m2 fun _ _ e => e
    have RG2 := Lib.hid (RG1.out _ A1 c1 _ o2.rb (Nat.le_refl _))
    clear F0 K K1 o1 RG1 b1 m2
    go_wp2_with fail
    refine (RG2.out).mono ?_
    rintro e w3 ⟨rfl, b3⟩
    have K3 := K2.later b3
    have o3 := o2.below b3
    have M3 := M2.trans (Mv.of_new b3 (fun b => b = q)) fun _ _ e => e
    clear F2 K2 o2 RG2 F1 b3 M2
    have g0 := cell_regrown (K3.cell 0)
    have g1 := cell_regrown (K3.cell 1)
    have g2 := cell_regrown (K3.cell 2)
    have g3 := cell_regrown (K3.cell 3)
    have g4 := cell_regrown (K3.cell 4)
    have g5 := cell_regrown (K3.cell 5)
    have g6 := cell_regrown (K3.cell 6)
    have g7 := cell_regrown (K3.cell 7)
    have g8 := cell_regrown (K3.cell 8)
    have g9 := cell_regrown (K3.cell 9)
    have g10 := cell_regrown (K3.cell 10)
    have p0 := cell_regrown ((World.cell?_of_block (M3.block b hbw hbq)).trans q0)
    have p1 := cell_regrown ((World.cell?_of_block (M3.block b hbw hbq)).trans q1)
    have p2 := cell_regrown ((World.cell?_of_block (M3.block b hbw hbq)).trans q2)
    have p3 := cell_regrown ((World.cell?_of_block (M3.block b hbw hbq)).trans q3)
    have p4 := cell_regrown ((World.cell?_of_block (M3.block b hbw hbq)).trans q4)
    have p5 := cell_regrown ((World.cell?_of_block (M3.block b hbw hbq)).trans q5)
    have p6 := cell_regrown ((World.cell?_of_block (M3.block b hbw hbq)).trans q6)
    have p7 := cell_regrown ((World.cell?_of_block (M3.block b hbw hbq)).trans q7)
    have p8 := cell_regrown ((World.cell?_of_block (M3.block b hbw hbq)).trans q8)
    have p9 := cell_regrown ((World.cell?_of_block (M3.block b hbw hbq)).trans q9)
    have p10 := cell_regrown ((World.cell?_of_block (M3.block b hbw hbq)).trans q10)
    clear q0 q1 q2 q3 q4 q5 q6 q7 q8 q9 q10
    go_wp2_with fail
    refine region_later (by kernel_rfl) ?_
    refine phase_later (by kernel_rfl) 4 (below_drew _) [0, 1, 2, 3, 4, 8, 5, 9, 6, 10, 7] rfl (by kernel_rfl) ?_
    simp only [picks, nth]
    repeat (go_big_quiet_step (fail))
    refine wpQuiet_nil ?_
    refine phase_op 11 3 rfl (by kernel_rfl) (by decide) ?_
    simp only [nth]
    go_wp2_with (go_at_call 51; refine (BF.out _ _ _).mono ?_; rintro e w5 ⟨rfl, b5⟩)
    have b6 : Below w3.heap.size w3 w5 := (below_drew w3).trans b5
    refine behind_later b6 ?_
    refine phase_later (by kernel_rfl) 0 (Below.refl _ _) [12, 13, 14] rfl (by kernel_rfl) ?_
    simp only [picks, nth]
    repeat (go_big_quiet_step (fail))
    refine wpQuiet_nil ?_
    refine phase_end (by kernel_rfl) ?_
    go_wp2_with fail
    go_ret
    exact ⟨rfl, M3.trans (Mv.of_new b6 (fun b => b = q)) fun _ _ e => e, fun h => by cases h⟩
  case true =>
    rw [if_neg (by simp)] at hfin
    subst hfin
    go_enter Tryz.func19, Tryz.ntmps19
    go_wp2_with fail
    refine (PA.out _).mono ?_
    rintro e w1 ⟨A1, c1, rfl, o1, b1⟩
    have K1 := K.later b1
    have F1 := K1.eleven
    have K2 : Blk (w1.setCell ⟨q, 10, none⟩ (.slice A1 pb.length c1)) q 31 #[.int .i64 ix, .int .i64 sb, .string (T nm), .int .i64 ty, .int .i64 ac, .bool mp, .bool st, .int .i64 mx, .int .i64 lo, .int .i64 hi, .slice A1 pb.length c1] := K1.set_ 10 _
    have F2 := K2.eleven
    have m2 := Mv.setCell w1 ⟨q, 10, none⟩ (.slice A1 pb.length c1)
    have o2 : OB (w1.setCell ⟨q, 10, none⟩ (.slice A1 pb.length c1)) w.heap.size A1 pb.length c1 pb := OV.off (show OV w1 w.heap.size 5 1 A1 pb.length c1 _ from o1) K1 (by decide)
    have M2 : Mv (fun b => b = q) w (w1.setCell ⟨q, 10, none⟩ (.slice A1 pb.length c1)) := (Mv.of_new b1 (fun b => b = q)).trans m2 fun _ _ e => e
    have RG2 := Lib.hid (RG1.out _ A1 c1 _ o2.rb (Nat.le_refl _))
    clear F0 K K1 o1 RG1 b1 m2
    go_wp2_with fail
    refine (RG2.out).mono ?_
    rintro e w3 ⟨rfl, b3⟩
    have K3 := K2.later b3
    have o3 := o2.below b3
    have M3 := M2.trans (Mv.of_new b3 (fun b => b = q)) fun _ _ e => e
    clear F2 K2 o2 RG2 F1 b3 M2
    have g0 := cell_regrown (K3.cell 0)
    have g1 := cell_regrown (K3.cell 1)
    have g2 := cell_regrown (K3.cell 2)
    have g3 := cell_regrown (K3.cell 3)
    have g4 := cell_regrown (K3.cell 4)
    have g5 := cell_regrown (K3.cell 5)
    have g6 := cell_regrown (K3.cell 6)
    have g7 := cell_regrown (K3.cell 7)
    have g8 := cell_regrown (K3.cell 8)
    have g9 := cell_regrown (K3.cell 9)
    have g10 := cell_regrown (K3.cell 10)
    have p0 := cell_regrown ((World.cell?_of_block (M3.block b hbw hbq)).trans q0)
    have p1 := cell_regrown ((World.cell?_of_block (M3.block b hbw hbq)).trans q1)
    have p2 := cell_regrown ((World.cell?_of_block (M3.block b hbw hbq)).trans q2)
    have p3 := cell_regrown ((World.cell?_of_block (M3.block b hbw hbq)).trans q3)
    have p4 := cell_regrown ((World.cell?_of_block (M3.block b hbw hbq)).trans q4)
    have p5 := cell_regrown ((World.cell?_of_block (M3.block b hbw hbq)).trans q5)
    have p6 := cell_regrown ((World.cell?_of_block (M3.block b hbw hbq)).trans q6)
    have p7 := cell_regrown ((World.cell?_of_block (M3.block b hbw hbq)).trans q7)
    have p8 := cell_regrown ((World.cell?_of_block (M3.block b hbw hbq)).trans q8)
    have p9 := cell_regrown ((World.cell?_of_block (M3.block b hbw hbq)).trans q9)
    have p10 := cell_regrown ((World.cell?_of_block (M3.block b hbw hbq)).trans q10)
    clear q0 q1 q2 q3 q4 q5 q6 q7 q8 q9 q10
    go_wp2_with fail
    refine region_later (by kernel_rfl) ?_
    refine phase_later (by kernel_rfl) 4 (below_drew _) [0, 1, 2, 3, 4, 8, 5, 9, 6, 10, 7] rfl (by kernel_rfl) ?_
    simp only [picks, nth]
    repeat (go_big_quiet_step (fail))
    refine wpQuiet_nil ?_
    refine phase_op 11 3 rfl (by kernel_rfl) (by decide) ?_
    simp only [nth]
    go_wp2_with (go_at_call 51; refine (BF.out _ _ _).mono ?_; rintro e w5 ⟨rfl, b5⟩)
    have b6 : Below w3.heap.size w3 w5 := (below_drew w3).trans b5
    refine behind_later b6 ?_
    refine phase_later (by kernel_rfl) 0 (Below.refl _ _) [12, 13, 14] rfl (by kernel_rfl) ?_
    simp only [picks, nth]
    repeat (go_big_quiet_step (fail))
    refine wpQuiet_nil ?_
    refine phase_end (by kernel_rfl) ?_
    go_wp2_with fail
    go_ret
    exact ⟨rfl, M3.trans (Mv.of_new b6 (fun b => b = q)) fun _ _ e => e, fun _ => ⟨A1, c1, K3.later b6, o3.below b6⟩⟩
end Go.Proofs.YtmolmpgampmolaaGreat
/-
  Layer 5, plain laws: numbers there and back.
  Conditions: none.
-/
namespace Go.Proofs.YtmolmpgampmolaaGreat
set_option linter.unusedVariables false
set_option linter.unusedSimpArgs false
theorem mod_pow (n : Int) (k : Nat) (hk : k ≤ 8) : (n % 18446744073709551616).toNat % 2 ^ (8 * k) = (n % ((2 ^ (8 * k) : Nat) : Int)).toNat := by
  have hd : (2 ^ (8 * k) : Nat) ∣ 18446744073709551616 := by
    rw [show (18446744073709551616 : Nat) = 2 ^ 64 by decide]
    exact Nat.pow_dvd_pow 2 (by omega)
  have hd' : ((2 ^ (8 * k) : Nat) : Int) ∣ 18446744073709551616 := Int.natCast_dvd_natCast.2 hd
  have hp : 0 < 2 ^ (8 * k) := Nat.pow_pos (by decide)
  have e : ((((n % 18446744073709551616).toNat % 2 ^ (8 * k) : Nat)) : Int) = (((n % ((2 ^ (8 * k) : Nat) : Int)).toNat : Nat) : Int) := by
    rw [Int.natCast_emod, Int.toNat_of_nonneg (by omega), Int.emod_emod_of_dvd _ hd', Int.toNat_of_nonneg (Int.emod_nonneg _ (by omega))]
  exact Int.ofNat.inj e
theorem dec_enc {t n : Int} {x : List UInt8} (h : Ty.encS t n = (x, 0)) : Ty.decS t x = (n, 0) ∧ x.length = (Ty.kd t).size ∧ (Ty.limS t).2.2 = true ∧ (Ty.limS t).1 ≤ n ∧ n ≤ (Ty.limS t).2.1 := by
  cases hok : (Ty.limS t).2.2 with
  | false => rw [enc_type hok] at h; simp at h
  | true =>
    by_cases hr : n < (Ty.limS t).1 ∨ (Ty.limS t).2.1 < n
    · rw [enc_range hok hr] at h; simp at h
    · rw [enc_ok hok hr] at h
      simp only [Prod.mk.injEq, and_true] at h
      have hlen : x.length = (Ty.kd t).size := by rw [← h, Oct.lb_length]
      refine ⟨?_, hlen, rfl, by omega, by omega⟩
      have hlim := lim_ok hok
      have hb0 : (Ty.kd t).bits ≠ 0 := by
        intro e
        unfold Ty.limS at hok
        rw [if_pos e] at hok
        cases hok
      unfold Ty.decS
      rw [if_neg hb0, hlen, if_neg (by omega), if_neg (by omega)]
      rcases hlim with ⟨s1, s2, s3, s4, s5⟩ | ⟨s1, s2, s3, s4, s5, s6⟩
      · rw [if_pos s1, ← h, Oct.le_lb, pow_256, Oct.sgn_mod, ← Oct.sgn_mod, mod_pow n _ s3, Oct.sgn_of n _ (by omega) (by omega) (by omega)]
      · have hpw := Nat.pow_le_pow_right (show 0 < 2 by decide) s6
        rw [if_neg (by rw [s1]; decide), ← h, Oct.le_lb, pow_256, mod_pow n _ (by omega)]
        have e1 : (n % ((2 ^ (8 * (Ty.kd t).size) : Nat) : Int)) = n := Int.emod_eq_of_lt (by omega) (by omega)
        rw [e1, if_neg (by omega), Int.toNat_of_nonneg (by omega)]
theorem enc_dec {t m : Int} {b : List UInt8} (h : Ty.decS t b = (m, 0)) : Ty.encS t m = (b, 0) := by
  unfold Ty.decS at h
  split at h
  · simp at h
  · rename_i hb0
    split at h
    · simp at h
    · rename_i hlt
      split at h
      · simp at h
      · rename_i hgt
        have hlen : b.length = (Ty.kd t).size := by omega
        rcases kd_num t with ⟨h0, _⟩ | ⟨k1, k2, k3, k4⟩ | ⟨k1, k2, k3, k4, k5, _⟩
        · exact absurd h0 hb0
        · rw [if_pos k1] at h
          simp only [Prod.mk.injEq, and_true] at h
          have hb := Oct.sgn_bounds (Oct.le b) (8 * (Ty.kd t).size) (by omega)
          have hok : (Ty.limS t).2.2 = true := by unfold Ty.limS; rw [if_neg hb0, if_pos k1]
          have hl : (Ty.limS t).1 = -((2 ^ (8 * (Ty.kd t).size - 1) : Nat) : Int) ∧ (Ty.limS t).2.1 = ((2 ^ (8 * (Ty.kd t).size - 1) : Nat) : Int) - 1 := by
            constructor <;> (unfold Ty.limS; rw [if_neg hb0, if_pos k1, k2])
          rw [enc_ok hok (by rw [hl.1, hl.2]; omega)]
          congr 1
          have hm := Oct.sgn_emod (Oct.le b) (8 * (Ty.kd t).size)
          rw [h] at hm
          have hle := Oct.le_lt b
          rw [hlen, pow_256] at hle
          have e1 : Oct.lb (Ty.kd t).size (m % 18446744073709551616).toNat = Oct.lb (Ty.kd t).size ((m % 18446744073709551616).toNat % 256 ^ (Ty.kd t).size) := (Oct.lb_mod _ _ _ (Nat.le_refl _)).symm
          rw [e1, pow_256, mod_pow m _ k4, hm, Int.toNat_natCast, Nat.mod_eq_of_lt hle, ← hlen, Oct.lb_le]
        · rw [if_neg (by rw [k1]; decide)] at h
          split at h
          · simp at h
          · rename_i hw
            simp only [Prod.mk.injEq, and_true] at h
            have hok : (Ty.limS t).2.2 = true := by unfold Ty.limS; rw [if_neg hb0, if_neg (by rw [k1]; decide)]
            have hl : (Ty.limS t).1 = 0 ∧ (Ty.limS t).2.1 = ((2 ^ (Ty.kd t).bits : Nat) : Int) - 1 := by
              constructor <;> (unfold Ty.limS; rw [if_neg hb0, if_neg (by rw [k1]; decide)])
            have hle := Oct.le_lt b
            have hle2 : Oct.le b < 4294967296 := Nat.lt_of_lt_of_le hle (by rw [hlen]; exact Nat.le_trans (Nat.pow_le_pow_right (by decide) k5) (by decide))
            rw [enc_ok hok (by rw [hl.1, hl.2]; omega)]
            congr 1
            rw [show (m % 18446744073709551616).toNat = Oct.le b by omega, ← hlen, Oct.lb_le]
end Go.Proofs.YtmolmpgampmolaaGreat
/-
  Walk: number of package lex.
  Conditions: none.
-/
namespace Go.Proofs.YtmolmpgampmolaaGreat
set_option linter.unusedVariables false
set_option linter.unusedSimpArgs false
open Go.RowKit
theorem par21 (s : List UInt8) : ((Ty.parN s).2 ≠ 0 ∧ Ty.parseS 21 s = ([], (Ty.parN s).2)) ∨ ((Ty.parN s).2 = 0 ∧ ∃ b, Ty.parseS 21 s = (b, 0) ∧ Ty.decS 21 b = ((Ty.parN s).1, 0) ∧ b.length = 8) := by
  have hv := parse_val 21 s
  rw [if_neg (by decide), if_pos (by decide)] at hv
  by_cases h : (Ty.parN s).2 = 0
  · rw [if_neg (by rw [h]; decide)] at hv
    have hr := (par_range2 s).1
    have hl : Ty.limS 21 = (-9223372036854775808, 9223372036854775807, true) := by decide
    have he := enc_ok (t := 21) (n := (Ty.parN s).1) (by rw [hl]) (by rw [hl]; dsimp only; omega)
    obtain ⟨d1, d2, _⟩ := dec_enc he
    exact .inr ⟨h, _, hv.trans he, d1, d2⟩
  · rw [if_pos h] at hv
    exact .inl ⟨h, hv⟩
theorem take_tw (p : UInt8 → Bool) (l : List UInt8) : l.take (l.takeWhile p).length = l.takeWhile p := List.prefix_iff_eq_take.1 (List.takeWhile_prefix p) |>.symm
def numV (txt : List UInt8) : Value := tkV 2 txt (if (Ty.parN txt).2 = 0 then (Ty.parN txt).1 else 0) 0
theorem num_ok {txt : List UInt8} (h : (Ty.parN txt).2 = 0) : numV txt = tkV 2 txt (Ty.parN txt).1 0 ∧ decide ((Ty.parN txt).2 = 0) = true := by unfold numV; rw [if_pos h]; exact ⟨rfl, decide_eq_true h⟩
theorem num_bad {txt : List UInt8} (h : (Ty.parN txt).2 ≠ 0) : numV txt = tkV 2 txt 0 0 ∧ decide ((Ty.parN txt).2 = 0) = false := by unfold numV; rw [if_neg h]; exact ⟨rfl, decide_eq_false h⟩
set_option maxRecDepth 100000 in
set_option maxHeartbeats 4000000 in
theorem lex_number (c : UInt8) (r : List UInt8) (w : World) (hd : Lx.tokD c r = true) (hs : (c :: r).length ≤ 10000) :
    Calls Tryz.prog 93 #[.string (T (c :: r))] w (FPost (numV (c :: r.takeWhile Ty.isD)) (decide ((Ty.parN (c :: r.takeWhile Ty.isD)).2 = 0)) w) := by
  have hT := T_size (c :: r)
  have hat := fun w => run_T_at (c :: r) .i64 0 0 rfl (by simp) w
  rw [show (c :: r).getD 0 0 = c from rfl] at hat
  have htl := tw_len Ty.isD r
  have htk : (c :: r).take (1 + (r.takeWhile Ty.isD).length) = c :: r.takeWhile Ty.isD := by
    rw [Nat.add_comm, List.take_succ_cons, take_tw]
  simp only [List.length_cons] at hs hT
  by_cases hc : c = 45
  · subst hc
    have hrest := fun w => run_T_rest (45 :: r) .i64 1 1 rfl (by simp) w
    rw [show List.drop 1 (45 :: r) = r from rfl] at hrest
    have H1 := head_digit r
    have hcut := fun w => run_T_head (45 :: r) .i64 (1 + ((r.takeWhile Ty.isD).length : Int)) (1 + (r.takeWhile Ty.isD).length) (by omega) (by simp only [List.length_cons]; omega) w
    rw [htk] at hcut
    have hT2 := T_size (r.takeWhile Ty.isD)
    generalize r.takeWhile Ty.isD = d at *
    have P := fun w => Parse_anyT 21 (45 :: d) w (by simp only [List.length_cons]; omega)
    clear htk hd
    have H2 := Lib.hid (fun w => H1 w (by first | omega | (simp only [List.length_cons]; omega)))
    clear H1
    generalize htx : (45 :: d : List UInt8) = txt at *
    generalize (45 :: r : List UInt8) = s at *
    clear htx
    rcases par21 txt with ⟨h1, h2⟩ | ⟨h1, b, h2, h3, h4⟩
    · rw [h2] at P
      have HV := Lib.hid (num_bad h1)
      have hx : ((Ty.parN txt).2 != 0) = true := by simpa using h1
      replace P := Lib.hid P
      clear h1 h2
      generalize (Ty.parN txt).2 = pe at *
      go_enter Tryz.func93, Tryz.ntmps93
      go_wp2_with fail
      refine (H2.out _).mono ?_
      rintro e w1 ⟨rfl, b1⟩
      have K2 := Blk.made b1
      have d1 := below_step (alloc_one _ _) b1 (Nat.le_refl _)
      go_wp2_with fail
      refine (P.out _).mono ?_
      rintro e w2 ⟨A2, c2, rfl, o2, b2⟩
      clear o2
      have K5 := Blk.made b2
      have F5 := K5.four
      have d2 := below_step (d1.alloc d1.size (.cells #[.int .i64 2, .string (T txt), .int .i64 0, .int .i64 0] 56)) b2 (Nat.le_refl _)
      replace K2 := (K2.alloc (.cells #[.int .i64 2, .string (T txt), .int .i64 0, .int .i64 0] 56)).later b2
      have F2 := K2.four
      go_wp2_with fail
      obtain ⟨⟨r0, r1, r2, r3⟩, _⟩ := (K2.store4 (.int .i64 2) (.string (T txt)) (.int .i64 0) (.int .i64 0)).four
      exact bodyPost_ret (v := .tuple #[tkV 2 txt 0 0, .bool false]) (by simp [results, Tryz.results93, go_sem, r0, r1, r2, r3, tkV]) rfl ⟨by rw [HV.out.1, HV.out.2], below_set4 d2 (Nat.le_refl _) _ _ _ _ _ _ _ _⟩
    · rw [h2] at P
      have HV := Lib.hid (num_ok h1)
      have D := fun (A : Option Addr) (c B : Nat) (w1 : World) (h : RB w1 B A 8 c b) (hB : B ≤ w1.heap.size) => Decode_any 21 w1 h hB
      rw [h3] at D
      replace P := Lib.hid P; replace D := Lib.hid D
      clear h1 h2 h3
      generalize (Ty.parN txt).1 = pv at *
      go_enter Tryz.func93, Tryz.ntmps93
      go_wp2_with fail
      refine (H2.out _).mono ?_
      rintro e w1 ⟨rfl, b1⟩
      have K2 := Blk.made b1
      have d1 := below_step (alloc_one _ _) b1 (Nat.le_refl _)
      go_wp2_with fail
      refine (P.out _).mono ?_
      rintro e w2 ⟨A2, c2, rfl, o2, b2⟩
      dsimp only at o2
      rw [h4] at o2
      have D2 := Lib.hid (D.out _ _ _ w2 o2.rb (Nat.le_refl _))
      clear o2
      have K5 := Blk.made b2
      have d2 := below_step (d1.alloc d1.size (.cells #[.int .i64 2, .string (T txt), .int .i64 0, .int .i64 0] 56)) b2 (Nat.le_refl _)
      replace K2 := (K2.alloc (.cells #[.int .i64 2, .string (T txt), .int .i64 0, .int .i64 0] 56)).later b2
      have HL := Lib.hid h4; clear h4
      have hbl : (b.length : Int) = 8 := by rw [HL.out]; rfl
      go_wp2_with fail
      rw [HL.out]
      refine (D2.out).mono ?_
      rintro e w3 ⟨rfl, b3⟩
      replace K5 := K5.later b3
      replace K2 := K2.later b3
      have F5 := K5.four
      have F5' := (K5.set_ 2 (.int .i64 pv)).four
      have hne : w.heap.size ≠ w1.heap.size := by have := b1.size; simp at this; omega
      have K2' := K2.far (p := ⟨w1.heap.size, 2, none⟩) hne (.int .i64 pv)
      have F2 := K2'.four
      have d3 := below_step d2 b3 (Nat.le_refl _)
      have d4 := d3.setCell (p := ⟨w1.heap.size, 2, none⟩) d1.size (.int .i64 pv)
      go_wp2_with fail
      obtain ⟨⟨r0, r1, r2, r3⟩, _⟩ := (K2'.store4 (.int .i64 2) (.string (T txt)) (.int .i64 pv) (.int .i64 0)).four
      exact bodyPost_ret (v := .tuple #[tkV 2 txt pv 0, .bool true]) (by simp [results, Tryz.results93, go_sem, r0, r1, r2, r3, tkV]) rfl ⟨by rw [HV.out.1, HV.out.2], below_set4 d4 (Nat.le_refl _) _ _ _ _ _ _ _ _⟩
  · have hdc : Ty.isD c = true := by
      unfold Lx.tokD at hd
      have : (c == 45) = false := by rw [beq_eq_false_iff_ne]; exact hc
      rw [this] at hd
      simpa using hd
    have hc1 := byte_ne (k := 45) hc rfl
    have hrest := fun w => run_T_rest (c :: r) .i64 0 0 rfl (by simp) w
    rw [show List.drop 0 (c :: r) = c :: r from rfl] at hrest
    have H1 := head_digit (c :: r)
    rw [List.takeWhile_cons, if_pos hdc] at H1
    have hcut := fun w => run_T_head (c :: r) .i64 (((r.takeWhile Ty.isD).length : Int) + 1) (1 + (r.takeWhile Ty.isD).length) (by omega) (by simp only [List.length_cons]; omega) w
    rw [htk] at hcut
    have hT2 := T_size (c :: r.takeWhile Ty.isD)
    simp only [List.length_cons] at hT2
    generalize r.takeWhile Ty.isD = d at *
    have P := fun w => Parse_anyT 21 (c :: d) w (by simp only [List.length_cons]; omega)
    clear hc hdc
    clear htk hd
    have H2 := Lib.hid (fun w => H1 w (by first | omega | (simp only [List.length_cons]; omega)))
    clear H1
    generalize htx : (c :: d : List UInt8) = txt at *
    generalize (c :: r : List UInt8) = s at *
    clear htx
    rcases par21 txt with ⟨h1, h2⟩ | ⟨h1, b, h2, h3, h4⟩
    · rw [h2] at P
      have HV := Lib.hid (num_bad h1)
      have hx : ((Ty.parN txt).2 != 0) = true := by simpa using h1
      replace P := Lib.hid P
      clear h1 h2
      generalize (Ty.parN txt).2 = pe at *
      go_enter Tryz.func93, Tryz.ntmps93
      go_wp2_with fail
      refine (H2.out _).mono ?_
      rintro e w1 ⟨rfl, b1⟩
      have K2 := Blk.made b1
      have d1 := below_step (alloc_one _ _) b1 (Nat.le_refl _)
      go_wp2_with fail
      refine (P.out _).mono ?_
      rintro e w2 ⟨A2, c2, rfl, o2, b2⟩
      clear o2
      have K5 := Blk.made b2
      have F5 := K5.four
      have d2 := below_step (d1.alloc d1.size (.cells #[.int .i64 2, .string (T txt), .int .i64 0, .int .i64 0] 56)) b2 (Nat.le_refl _)
      replace K2 := (K2.alloc (.cells #[.int .i64 2, .string (T txt), .int .i64 0, .int .i64 0] 56)).later b2
      have F2 := K2.four
      go_wp2_with fail
      obtain ⟨⟨r0, r1, r2, r3⟩, _⟩ := (K2.store4 (.int .i64 2) (.string (T txt)) (.int .i64 0) (.int .i64 0)).four
      exact bodyPost_ret (v := .tuple #[tkV 2 txt 0 0, .bool false]) (by simp [results, Tryz.results93, go_sem, r0, r1, r2, r3, tkV]) rfl ⟨by rw [HV.out.1, HV.out.2], below_set4 d2 (Nat.le_refl _) _ _ _ _ _ _ _ _⟩
    · rw [h2] at P
      have HV := Lib.hid (num_ok h1)
      have D := fun (A : Option Addr) (c B : Nat) (w1 : World) (h : RB w1 B A 8 c b) (hB : B ≤ w1.heap.size) => Decode_any 21 w1 h hB
      rw [h3] at D
      replace P := Lib.hid P; replace D := Lib.hid D
      clear h1 h2 h3
      generalize (Ty.parN txt).1 = pv at *
      go_enter Tryz.func93, Tryz.ntmps93
      go_wp2_with fail
      refine (H2.out _).mono ?_
      rintro e w1 ⟨rfl, b1⟩
      have K2 := Blk.made b1
      have d1 := below_step (alloc_one _ _) b1 (Nat.le_refl _)
      go_wp2_with fail
      refine (P.out _).mono ?_
      rintro e w2 ⟨A2, c2, rfl, o2, b2⟩
      dsimp only at o2
      rw [h4] at o2
      have D2 := Lib.hid (D.out _ _ _ w2 o2.rb (Nat.le_refl _))
      clear o2
      have K5 := Blk.made b2
      have d2 := below_step (d1.alloc d1.size (.cells #[.int .i64 2, .string (T txt), .int .i64 0, .int .i64 0] 56)) b2 (Nat.le_refl _)
      replace K2 := (K2.alloc (.cells #[.int .i64 2, .string (T txt), .int .i64 0, .int .i64 0] 56)).later b2
      have HL := Lib.hid h4; clear h4
      have hbl : (b.length : Int) = 8 := by rw [HL.out]; rfl
      go_wp2_with fail
      rw [HL.out]
      refine (D2.out).mono ?_
      rintro e w3 ⟨rfl, b3⟩
      replace K5 := K5.later b3
      replace K2 := K2.later b3
      have F5 := K5.four
      have F5' := (K5.set_ 2 (.int .i64 pv)).four
      have hne : w.heap.size ≠ w1.heap.size := by have := b1.size; simp at this; omega
      have K2' := K2.far (p := ⟨w1.heap.size, 2, none⟩) hne (.int .i64 pv)
      have F2 := K2'.four
      have d3 := below_step d2 b3 (Nat.le_refl _)
      have d4 := d3.setCell (p := ⟨w1.heap.size, 2, none⟩) d1.size (.int .i64 pv)
      go_wp2_with fail
      obtain ⟨⟨r0, r1, r2, r3⟩, _⟩ := (K2'.store4 (.int .i64 2) (.string (T txt)) (.int .i64 pv) (.int .i64 0)).four
      exact bodyPost_ret (v := .tuple #[tkV 2 txt pv 0, .bool true]) (by simp [results, Tryz.results93, go_sem, r0, r1, r2, r3, tkV]) rfl ⟨by rw [HV.out.1, HV.out.2], below_set4 d4 (Nat.le_refl _) _ _ _ _ _ _ _ _⟩
end Go.Proofs.YtmolmpgampmolaaGreat
