/-
  Texts joined: EdsEnt.
  Conditions: none.
-/
import Derived.Test.YtmolmpgampmolaaGreatJ04
import Derived.Test.YtmolmpgampmolaaGreatJ07
import Derived.Test.YtmolmpgampmolaaGreatJ08
/-
  Walk: entry of layer 17 (printed by wip/gened.py).
  Conditions: none.
-/
namespace Go.Proofs.YtmolmpgampmolaaGreat
set_option linter.unusedVariables false
set_option linter.unusedSimpArgs false
open Go.RowKit Go.Sort
theorem Mv.over {F : Nat → Prop} {w w' : World} (h : Mv F w w') {q : Nat} (hq : w.heap.size ≤ q) (i : Nat) (u : Value) : Mv F w (w'.setCell ⟨q, i, none⟩ u) := h.trans (Mv.setCell w' ⟨q, i, none⟩ u) fun b hb e => absurd hb (by have e' : b = q := e; omega)
theorem ent_no {ts : List Lx.Tk} {s : Ed.R} (hn : Ed.numB (Ed.kindT ts (Ed.needR ts (Ed.needR ts (Ed.needR ts (Ed.needR ts s 3 []) 5 [58]) 2 []) 1 [])) = false) : Ed.entE ts s = ⟨(Ed.needT ts s 3).n, Ed.cntV (Ed.needT ts (Ed.needR ts (Ed.needR ts s 3 []) 5 [58]) 2).n, (Ed.needT ts (Ed.needR ts (Ed.needR ts (Ed.needR ts s 3 []) 5 [58]) 2 []) 1).text, (Ed.kindT ts (Ed.needR ts (Ed.needR ts (Ed.needR ts (Ed.needR ts s 3 []) 5 [58]) 2 []) 1 [])), Ed.rightsT ts (Ed.needR ts (Ed.needR ts (Ed.needR ts (Ed.kindR ts (Ed.needR ts (Ed.needR ts (Ed.needR ts (Ed.needR ts s 3 []) 5 [58]) 2 []) 1 [])) 5 [91]) 2 []) 5 [93]), (Ed.isS ts (Ed.rightsR ts (Ed.needR ts (Ed.needR ts (Ed.needR ts (Ed.kindR ts (Ed.needR ts (Ed.needR ts (Ed.needR ts (Ed.needR ts s 3 []) 5 [58]) 2 []) 1 [])) 5 [91]) 2 []) 5 [93])) 1 [109, 97, 112]), (Ed.isS ts (Ed.takeS ts (Ed.rightsR ts (Ed.needR ts (Ed.needR ts (Ed.needR ts (Ed.kindR ts (Ed.needR ts (Ed.needR ts (Ed.needR ts (Ed.needR ts s 3 []) 5 [58]) 2 []) 1 [])) 5 [91]) 2 []) 5 [93])) 1 [109, 97, 112]) 1 [115, 116, 111, 114, 101]), Ed.cntV (Ed.needT ts (Ed.needR ts (Ed.kindR ts (Ed.needR ts (Ed.needR ts (Ed.needR ts (Ed.needR ts s 3 []) 5 [58]) 2 []) 1 [])) 5 [91]) 2).n, (Ty.limS (Ed.kindT ts (Ed.needR ts (Ed.needR ts (Ed.needR ts (Ed.needR ts s 3 []) 5 [58]) 2 []) 1 []))).1, (Ty.limS (Ed.kindT ts (Ed.needR ts (Ed.needR ts (Ed.needR ts (Ed.needR ts s 3 []) 5 [58]) 2 []) 1 []))).2.1, []⟩ ∧ Ed.entV ts s = (Ed.needT ts (Ed.needR ts (Ed.takeS ts (Ed.takeS ts (Ed.rightsR ts (Ed.needR ts (Ed.needR ts (Ed.needR ts (Ed.kindR ts (Ed.needR ts (Ed.needR ts (Ed.needR ts (Ed.needR ts s 3 []) 5 [58]) 2 []) 1 [])) 5 [91]) 2 []) 5 [93])) 1 [109, 97, 112]) 1 [115, 116, 111, 114, 101]) 5 [61]) 4).text ∧ Ed.entR ts s = (Ed.needR ts (Ed.needR ts (Ed.needR ts (Ed.takeS ts (Ed.takeS ts (Ed.rightsR ts (Ed.needR ts (Ed.needR ts (Ed.needR ts (Ed.kindR ts (Ed.needR ts (Ed.needR ts (Ed.needR ts (Ed.needR ts s 3 []) 5 [58]) 2 []) 1 [])) 5 [91]) 2 []) 5 [93])) 1 [109, 97, 112]) 1 [115, 116, 111, 114, 101]) 5 [61]) 4 []) 5 [59]) := by
  have hn' : Ed.numB (Ed.headS ts s).ty = false := hn
  unfold Ed.entE Ed.entV Ed.entR Ed.entK Ed.limR Ed.inB Ed.stoR Ed.stoT Ed.mapR Ed.mapT Ed.accR Ed.accT Ed.sizR
  simp only [hn', Bool.false_and, Bool.true_and, Bool.false_eq_true, if_false, if_true]
  exact ⟨rfl, rfl, rfl⟩
theorem ent_num {ts : List Lx.Tk} {s : Ed.R} (hn : Ed.numB (Ed.kindT ts (Ed.needR ts (Ed.needR ts (Ed.needR ts (Ed.needR ts s 3 []) 5 [58]) 2 []) 1 [])) = true) (hr : Ed.isS ts (Ed.takeS ts (Ed.takeS ts (Ed.rightsR ts (Ed.kindR ts (Ed.needR ts (Ed.needR ts (Ed.needR ts (Ed.needR ts s 3 []) 5 [58]) 2 []) 1 []))) 1 [109, 97, 112]) 1 [115, 116, 111, 114, 101]) 1 [105, 110] = false) : Ed.entE ts s = ⟨(Ed.needT ts s 3).n, Ed.cntV (Ed.needT ts (Ed.needR ts (Ed.needR ts s 3 []) 5 [58]) 2).n, (Ed.needT ts (Ed.needR ts (Ed.needR ts (Ed.needR ts s 3 []) 5 [58]) 2 []) 1).text, (Ed.kindT ts (Ed.needR ts (Ed.needR ts (Ed.needR ts (Ed.needR ts s 3 []) 5 [58]) 2 []) 1 [])), Ed.rightsT ts (Ed.kindR ts (Ed.needR ts (Ed.needR ts (Ed.needR ts (Ed.needR ts s 3 []) 5 [58]) 2 []) 1 [])), (Ed.isS ts (Ed.rightsR ts (Ed.kindR ts (Ed.needR ts (Ed.needR ts (Ed.needR ts (Ed.needR ts s 3 []) 5 [58]) 2 []) 1 []))) 1 [109, 97, 112]), (Ed.isS ts (Ed.takeS ts (Ed.rightsR ts (Ed.kindR ts (Ed.needR ts (Ed.needR ts (Ed.needR ts (Ed.needR ts s 3 []) 5 [58]) 2 []) 1 []))) 1 [109, 97, 112]) 1 [115, 116, 111, 114, 101]), 0, (Ty.limS (Ed.kindT ts (Ed.needR ts (Ed.needR ts (Ed.needR ts (Ed.needR ts s 3 []) 5 [58]) 2 []) 1 []))).1, (Ty.limS (Ed.kindT ts (Ed.needR ts (Ed.needR ts (Ed.needR ts (Ed.needR ts s 3 []) 5 [58]) 2 []) 1 []))).2.1, []⟩ ∧ Ed.entV ts s = (Ed.needT ts (Ed.needR ts (Ed.takeS ts (Ed.takeS ts (Ed.rightsR ts (Ed.kindR ts (Ed.needR ts (Ed.needR ts (Ed.needR ts (Ed.needR ts s 3 []) 5 [58]) 2 []) 1 []))) 1 [109, 97, 112]) 1 [115, 116, 111, 114, 101]) 5 [61]) 2).text ∧ Ed.entR ts s = (Ed.needR ts (Ed.needR ts (Ed.needR ts (Ed.takeS ts (Ed.takeS ts (Ed.rightsR ts (Ed.kindR ts (Ed.needR ts (Ed.needR ts (Ed.needR ts (Ed.needR ts s 3 []) 5 [58]) 2 []) 1 []))) 1 [109, 97, 112]) 1 [115, 116, 111, 114, 101]) 5 [61]) 2 []) 5 [59]) := by
  have hn' : Ed.numB (Ed.headS ts s).ty = true := hn
  unfold Ed.entE Ed.entV Ed.entR Ed.entK Ed.limR Ed.inB Ed.stoR Ed.stoT Ed.mapR Ed.mapT Ed.accR Ed.accT Ed.sizR
  simp only [hn', Bool.false_and, Bool.true_and, Bool.false_eq_true, if_false, if_true]
  simp only [show Ed.isS ts (Ed.takeS ts (Ed.takeS ts (Ed.rightsR ts (Ed.headS ts s).st) 1 [109, 97, 112]) 1 [115, 116, 111, 114, 101]) 1 [105, 110] = false from hr, Bool.false_eq_true, if_false, if_true]
  exact ⟨rfl, rfl, rfl⟩
theorem ent_rng {ts : List Lx.Tk} {s : Ed.R} (hn : Ed.numB (Ed.kindT ts (Ed.needR ts (Ed.needR ts (Ed.needR ts (Ed.needR ts s 3 []) 5 [58]) 2 []) 1 [])) = true) (hr : Ed.isS ts (Ed.takeS ts (Ed.takeS ts (Ed.rightsR ts (Ed.kindR ts (Ed.needR ts (Ed.needR ts (Ed.needR ts (Ed.needR ts s 3 []) 5 [58]) 2 []) 1 []))) 1 [109, 97, 112]) 1 [115, 116, 111, 114, 101]) 1 [105, 110] = true) : Ed.entE ts s = ⟨(Ed.needT ts s 3).n, Ed.cntV (Ed.needT ts (Ed.needR ts (Ed.needR ts s 3 []) 5 [58]) 2).n, (Ed.needT ts (Ed.needR ts (Ed.needR ts (Ed.needR ts s 3 []) 5 [58]) 2 []) 1).text, (Ed.kindT ts (Ed.needR ts (Ed.needR ts (Ed.needR ts (Ed.needR ts s 3 []) 5 [58]) 2 []) 1 [])), Ed.rightsT ts (Ed.kindR ts (Ed.needR ts (Ed.needR ts (Ed.needR ts (Ed.needR ts s 3 []) 5 [58]) 2 []) 1 [])), (Ed.isS ts (Ed.rightsR ts (Ed.kindR ts (Ed.needR ts (Ed.needR ts (Ed.needR ts (Ed.needR ts s 3 []) 5 [58]) 2 []) 1 []))) 1 [109, 97, 112]), (Ed.isS ts (Ed.takeS ts (Ed.rightsR ts (Ed.kindR ts (Ed.needR ts (Ed.needR ts (Ed.needR ts (Ed.needR ts s 3 []) 5 [58]) 2 []) 1 []))) 1 [109, 97, 112]) 1 [115, 116, 111, 114, 101]), 0, (Ed.needT ts (Ed.stepS (Ed.takeS ts (Ed.takeS ts (Ed.rightsR ts (Ed.kindR ts (Ed.needR ts (Ed.needR ts (Ed.needR ts (Ed.needR ts s 3 []) 5 [58]) 2 []) 1 []))) 1 [109, 97, 112]) 1 [115, 116, 111, 114, 101])) 2).n, (Ed.needT ts (Ed.needR ts (Ed.needR ts (Ed.stepS (Ed.takeS ts (Ed.takeS ts (Ed.rightsR ts (Ed.kindR ts (Ed.needR ts (Ed.needR ts (Ed.needR ts (Ed.needR ts s 3 []) 5 [58]) 2 []) 1 []))) 1 [109, 97, 112]) 1 [115, 116, 111, 114, 101])) 2 []) 5 [46, 46]) 2).n, []⟩ ∧ Ed.entV ts s = (Ed.needT ts (Ed.needR ts (Ed.needR ts (Ed.needR ts (Ed.needR ts (Ed.stepS (Ed.takeS ts (Ed.takeS ts (Ed.rightsR ts (Ed.kindR ts (Ed.needR ts (Ed.needR ts (Ed.needR ts (Ed.needR ts s 3 []) 5 [58]) 2 []) 1 []))) 1 [109, 97, 112]) 1 [115, 116, 111, 114, 101])) 2 []) 5 [46, 46]) 2 []) 5 [61]) 2).text ∧ Ed.entR ts s = (Ed.needR ts (Ed.needR ts (Ed.needR ts (Ed.needR ts (Ed.needR ts (Ed.needR ts (Ed.stepS (Ed.takeS ts (Ed.takeS ts (Ed.rightsR ts (Ed.kindR ts (Ed.needR ts (Ed.needR ts (Ed.needR ts (Ed.needR ts s 3 []) 5 [58]) 2 []) 1 []))) 1 [109, 97, 112]) 1 [115, 116, 111, 114, 101])) 2 []) 5 [46, 46]) 2 []) 5 [61]) 2 []) 5 [59]) := by
  have hn' : Ed.numB (Ed.headS ts s).ty = true := hn
  unfold Ed.entE Ed.entV Ed.entR Ed.entK Ed.limR Ed.inB Ed.stoR Ed.stoT Ed.mapR Ed.mapT Ed.accR Ed.accT Ed.sizR
  simp only [hn', Bool.false_and, Bool.true_and, Bool.false_eq_true, if_false, if_true]
  simp only [show Ed.isS ts (Ed.takeS ts (Ed.takeS ts (Ed.rightsR ts (Ed.headS ts s).st) 1 [109, 97, 112]) 1 [115, 116, 111, 114, 101]) 1 [105, 110] = true from hr, Bool.false_eq_true, if_false, if_true]
  exact ⟨rfl, rfl, rfl⟩
section
variable {w : World} {g : Nat} {A : Option Addr} {n c : Nat} {ts : List Lx.Tk} {x : List UInt8} {s : Ed.R}
set_option maxRecDepth 100000 in
set_option maxHeartbeats 16000000 in
theorem entry_any (h : RdM w g A n c ts x s) : Calls Tryz.prog 18 #[.pointer (some ⟨g, 0, none⟩)] w fun e w' => e = .returned (.tuple #[enV (Ed.entE ts s) none 0 0, .string (T (Ed.entV ts s))]) ∧ Mv (fun q => q = g) w w' ∧ RdM w' g A n c ts x (Ed.entR ts s) := by
  have hgl := h.blk.lt
  have b0 := alloc_one w (.cells #[.int .i64 0, .int .i64 0, .string ⟨#[]⟩, .int .i64 0, .int .i64 0, .bool false, .bool false, .int .i64 0, .int .i64 0, .int .i64 0, .slice none 0 0] 31)
  have K := Blk.new w 31 #[.int .i64 0, .int .i64 0, .string ⟨#[]⟩, .int .i64 0, .int .i64 0, .bool false, .bool false, .int .i64 0, .int .i64 0, .int .i64 0, .slice none 0 0]
  have M := Mv.of_new b0 (fun q => q = g)
  have H := h.below b0
  have hz0 : w.heap.size < (w.alloc (.cells #[.int .i64 0, .int .i64 0, .string ⟨#[]⟩, .int .i64 0, .int .i64 0, .bool false, .bool false, .int .i64 0, .int .i64 0, .int .i64 0, .slice none 0 0] 31)).heap.size := K.lt
  clear h b0
  cases hn : Ed.numB (Ed.kindT ts (Ed.needR ts (Ed.needR ts (Ed.needR ts (Ed.needR ts s 3 []) 5 [58]) 2 []) 1 []))
  · skip
    obtain ⟨q1, q2, q3⟩ := ent_no hn
    rw [q1, q2, q3]
    clear q1 q2 q3
    have N1 := fun (w : World) (H : RdM w g A n c ts x s) => need_any H 3
    unfold tkW at N1
    generalize Ed.needT ts s 3 = t1 at *
    generalize Ed.needR ts s 3 [] = s1 at *
    obtain ⟨t1k, t1t, t1n, t1p⟩ := t1
    dsimp only at N1 ⊢
    have fd1 := fld2 t1k t1t t1n t1p
    have N2 := fun (w : World) (H : RdM w g A n c ts x s1) => mark_any H [58]
    generalize Ed.needR ts s1 5 [58] = s2 at *
    have N3 := fun (w : World) (H : RdM w g A n c ts x s2) => count_any H
    generalize Ed.cntV (Ed.needT ts s2 2).n = sb at *
    generalize Ed.needR ts s2 2 [] = s3 at *
    have N4 := fun (w : World) (H : RdM w g A n c ts x s3) => need_any H 1
    unfold tkW at N4
    generalize Ed.needT ts s3 1 = t4 at *
    generalize Ed.needR ts s3 1 [] = s4 at *
    obtain ⟨t4k, t4t, t4n, t4p⟩ := t4
    dsimp only at N4 ⊢
    have fd4 := fld1 t4k t4t t4n t4p
    have N5 := fun (w : World) (H : RdM w g A n c ts x s4) => ekind_any H
    generalize Ed.kindT ts s4 = ty at *
    generalize Ed.kindR ts s4 = s5 at *
    unfold Ed.numB at hn
    have LM := fun w => Limits_any ty w
    unfold LimPost at LM
    generalize Ty.limS ty = lm at *
    obtain ⟨lo, hi, nb⟩ := lm
    dsimp only at LM hn ⊢
    subst hn
    have N6 := fun (w : World) (H : RdM w g A n c ts x s5) => mark_any H [91]
    generalize Ed.needR ts s5 5 [91] = s6 at *
    have N7 := fun (w : World) (H : RdM w g A n c ts x s6) => count_any H
    generalize Ed.cntV (Ed.needT ts s6 2).n = mx at *
    generalize Ed.needR ts s6 2 [] = s7 at *
    have N8 := fun (w : World) (H : RdM w g A n c ts x s7) => mark_any H [93]
    generalize Ed.needR ts s7 5 [93] = s8 at *
    have N9 := fun (w : World) (H : RdM w g A n c ts x s8) => erights_any H
    generalize Ed.rightsT ts s8 = ac at *
    generalize Ed.rightsR ts s8 = s9 at *
    have N10 := fun (w : World) (H : RdM w g A n c ts x s9) => take_any H 1 [109, 97, 112]
    generalize Ed.isS ts s9 1 [109, 97, 112] = mp at *
    generalize Ed.takeS ts s9 1 [109, 97, 112] = s10 at *
    have N11 := fun (w : World) (H : RdM w g A n c ts x s10) => take_any H 1 [115, 116, 111, 114, 101]
    generalize Ed.isS ts s10 1 [115, 116, 111, 114, 101] = st at *
    generalize Ed.takeS ts s10 1 [115, 116, 111, 114, 101] = s11 at *
    have N16 := fun (w : World) (H : RdM w g A n c ts x s11) => mark_any H [61]
    generalize Ed.needR ts s11 5 [61] = s16 at *
    have N17 := fun (w : World) (H : RdM w g A n c ts x s16) => need_any H 4
    unfold tkW at N17
    generalize Ed.needT ts s16 4 = t17 at *
    generalize Ed.needR ts s16 4 [] = s17 at *
    obtain ⟨t17k, t17t, t17n, t17p⟩ := t17
    dsimp only at N17 ⊢
    have fd17 := fld1 t17k t17t t17n t17p
    have N18 := fun (w : World) (H : RdM w g A n c ts x s17) => mark_any H [59]
    generalize Ed.needR ts s17 5 [59] = s18 at *
    replace N1 := Lib.hid N1
    replace N2 := Lib.hid N2
    replace N3 := Lib.hid N3
    replace N4 := Lib.hid N4
    replace N5 := Lib.hid N5
    replace N6 := Lib.hid N6
    replace N7 := Lib.hid N7
    replace N8 := Lib.hid N8
    replace N9 := Lib.hid N9
    replace N10 := Lib.hid N10
    replace N11 := Lib.hid N11
    replace N16 := Lib.hid N16
    replace N17 := Lib.hid N17
    replace N18 := Lib.hid N18
    replace LM := Lib.hid LM
    go_enter Tryz.func18, Tryz.ntmps18
    have C := Lib.hid (N1.out _ H)
    clear H
    go_wp2_with fail
    refine (C.out).mono ?_
    rintro e w1 ⟨rfl, m, H⟩
    replace K := K.mv m (by omega)
    replace M := M.trans m (fun _ _ e => e)
    have hz1 := m.size
    clear C m
    have be := alloc_one w1 (.cells #[.int .i64 t1n, .int .i64 0, .string ⟨#[]⟩, .int .i64 0, .int .i64 0, .bool false, .bool false, .int .i64 0, .int .i64 0, .int .i64 0, .slice none 0 0] 31)
    have E := Blk.new w1 31 #[.int .i64 t1n, .int .i64 0, .string ⟨#[]⟩, .int .i64 0, .int .i64 0, .bool false, .bool false, .int .i64 0, .int .i64 0, .int .i64 0, .slice none 0 0]
    replace K := K.later be
    replace M := M.trans (Mv.of_new be (fun q => q = g)) (fun _ _ e => e)
    replace H := H.below be
    have hge0 : w.heap.size < w1.heap.size := by omega
    clear be
    have C := Lib.hid (N2.out _ H)
    clear H
    go_wp2_with fail
    refine (C.out).mono ?_
    rintro e w2 ⟨rfl, m, H⟩
    replace K := K.mv m (by omega)
    replace M := M.trans m (fun _ _ e => e)
    replace E := E.mv m (by omega)
    clear C m
    have C := Lib.hid (N3.out _ H)
    clear H
    go_wp2_with fail
    refine (C.out).mono ?_
    rintro e w3 ⟨rfl, m, H⟩
    replace K := K.mv m (by omega)
    replace M := M.trans m (fun _ _ e => e)
    replace E := E.mv m (by omega)
    clear C m
    have FE := E.eleven
    have E0 : Blk (w3.setCell ⟨w1.heap.size, 1, none⟩ (.int .i64 sb)) w1.heap.size 31 #[.int .i64 t1n, .int .i64 sb, .string ⟨#[]⟩, .int .i64 0, .int .i64 0, .bool false, .bool false, .int .i64 0, .int .i64 0, .int .i64 0, .slice none 0 0] := E.set_ 1 (.int .i64 sb)
    have H0 := H.mv (Mv.setCell w3 ⟨w1.heap.size, 1, none⟩ (.int .i64 sb)) (fun q e => by have e' : q = w1.heap.size := e; omega)
    replace K := K.mv (Mv.setCell w3 ⟨w1.heap.size, 1, none⟩ (.int .i64 sb)) (by show ¬ w.heap.size = w1.heap.size; omega)
    replace M := M.over (q := w1.heap.size) (by omega) 1 (.int .i64 sb)
    clear E H
    have E := E0
    have H := H0
    clear E0 H0
    have C := Lib.hid (N4.out _ H)
    clear H
    go_wp2_with fail
    refine (C.out).mono ?_
    rintro e w4 ⟨rfl, m, H⟩
    replace K := K.mv m (by omega)
    replace M := M.trans m (fun _ _ e => e)
    replace E := E.mv m (by omega)
    clear C m
    have FE := E.eleven
    have E0 : Blk (w4.setCell ⟨w1.heap.size, 2, none⟩ (.string (T t4t))) w1.heap.size 31 #[.int .i64 t1n, .int .i64 sb, .string (T t4t), .int .i64 0, .int .i64 0, .bool false, .bool false, .int .i64 0, .int .i64 0, .int .i64 0, .slice none 0 0] := E.set_ 2 (.string (T t4t))
    have H0 := H.mv (Mv.setCell w4 ⟨w1.heap.size, 2, none⟩ (.string (T t4t))) (fun q e => by have e' : q = w1.heap.size := e; omega)
    replace K := K.mv (Mv.setCell w4 ⟨w1.heap.size, 2, none⟩ (.string (T t4t))) (by show ¬ w.heap.size = w1.heap.size; omega)
    replace M := M.over (q := w1.heap.size) (by omega) 2 (.string (T t4t))
    clear E H
    have E := E0
    have H := H0
    clear E0 H0
    have C := Lib.hid (N5.out _ H)
    clear H
    go_wp2_with fail
    refine (C.out).mono ?_
    rintro e w5 ⟨rfl, m, H⟩
    replace K := K.mv m (by omega)
    replace M := M.trans m (fun _ _ e => e)
    replace E := E.mv m (by omega)
    clear C m
    have FE := E.eleven
    have E0 : Blk (w5.setCell ⟨w1.heap.size, 3, none⟩ (.int .i64 ty)) w1.heap.size 31 #[.int .i64 t1n, .int .i64 sb, .string (T t4t), .int .i64 ty, .int .i64 0, .bool false, .bool false, .int .i64 0, .int .i64 0, .int .i64 0, .slice none 0 0] := E.set_ 3 (.int .i64 ty)
    have H0 := H.mv (Mv.setCell w5 ⟨w1.heap.size, 3, none⟩ (.int .i64 ty)) (fun q e => by have e' : q = w1.heap.size := e; omega)
    replace K := K.mv (Mv.setCell w5 ⟨w1.heap.size, 3, none⟩ (.int .i64 ty)) (by show ¬ w.heap.size = w1.heap.size; omega)
    replace M := M.over (q := w1.heap.size) (by omega) 3 (.int .i64 ty)
    clear E H
    have E := E0
    have H := H0
    clear E0 H0
    have FE := E.eleven
    go_wp2_with fail
    refine (LM.out _).mono ?_
    rintro e wl ⟨rfl, bl⟩
    replace K := K.later bl
    replace E := E.later bl
    replace H := H.below bl
    replace M := M.trans (Mv.of_new bl (fun q => q = g)) (fun _ _ e => e)
    clear FE bl
    have C := Lib.hid (N6.out _ H)
    clear H
    go_wp2_with fail
    refine (C.out).mono ?_
    rintro e w6 ⟨rfl, m, H⟩
    replace K := K.mv m (by omega)
    replace M := M.trans m (fun _ _ e => e)
    replace E := E.mv m (by omega)
    clear C m
    have C := Lib.hid (N7.out _ H)
    clear H
    go_wp2_with fail
    refine (C.out).mono ?_
    rintro e w7 ⟨rfl, m, H⟩
    replace K := K.mv m (by omega)
    replace M := M.trans m (fun _ _ e => e)
    replace E := E.mv m (by omega)
    clear C m
    have FE := E.eleven
    have E0 : Blk (w7.setCell ⟨w1.heap.size, 7, none⟩ (.int .i64 mx)) w1.heap.size 31 #[.int .i64 t1n, .int .i64 sb, .string (T t4t), .int .i64 ty, .int .i64 0, .bool false, .bool false, .int .i64 mx, .int .i64 0, .int .i64 0, .slice none 0 0] := E.set_ 7 (.int .i64 mx)
    have H0 := H.mv (Mv.setCell w7 ⟨w1.heap.size, 7, none⟩ (.int .i64 mx)) (fun q e => by have e' : q = w1.heap.size := e; omega)
    replace K := K.mv (Mv.setCell w7 ⟨w1.heap.size, 7, none⟩ (.int .i64 mx)) (by show ¬ w.heap.size = w1.heap.size; omega)
    replace M := M.over (q := w1.heap.size) (by omega) 7 (.int .i64 mx)
    clear E H
    have E := E0
    have H := H0
    clear E0 H0
    have C := Lib.hid (N8.out _ H)
    clear H
    go_wp2_with fail
    refine (C.out).mono ?_
    rintro e w8 ⟨rfl, m, H⟩
    replace K := K.mv m (by omega)
    replace M := M.trans m (fun _ _ e => e)
    replace E := E.mv m (by omega)
    clear C m
    have C := Lib.hid (N9.out _ H)
    clear H
    go_wp2_with fail
    refine (C.out).mono ?_
    rintro e w9 ⟨rfl, m, H⟩
    replace K := K.mv m (by omega)
    replace M := M.trans m (fun _ _ e => e)
    replace E := E.mv m (by omega)
    clear C m
    have FE := E.eleven
    have E0 : Blk (w9.setCell ⟨w1.heap.size, 4, none⟩ (.int .i64 ac)) w1.heap.size 31 #[.int .i64 t1n, .int .i64 sb, .string (T t4t), .int .i64 ty, .int .i64 ac, .bool false, .bool false, .int .i64 mx, .int .i64 0, .int .i64 0, .slice none 0 0] := E.set_ 4 (.int .i64 ac)
    have H0 := H.mv (Mv.setCell w9 ⟨w1.heap.size, 4, none⟩ (.int .i64 ac)) (fun q e => by have e' : q = w1.heap.size := e; omega)
    replace K := K.mv (Mv.setCell w9 ⟨w1.heap.size, 4, none⟩ (.int .i64 ac)) (by show ¬ w.heap.size = w1.heap.size; omega)
    replace M := M.over (q := w1.heap.size) (by omega) 4 (.int .i64 ac)
    clear E H
    have E := E0
    have H := H0
    clear E0 H0
    have C := Lib.hid (N10.out _ H)
    clear H
    go_wp2_with fail
    refine (C.out).mono ?_
    rintro e w10 ⟨rfl, m, H⟩
    replace K := K.mv m (by omega)
    replace M := M.trans m (fun _ _ e => e)
    replace E := E.mv m (by omega)
    clear C m
    have FE := E.eleven
    have E0 : Blk (w10.setCell ⟨w1.heap.size, 5, none⟩ (.bool mp)) w1.heap.size 31 #[.int .i64 t1n, .int .i64 sb, .string (T t4t), .int .i64 ty, .int .i64 ac, .bool mp, .bool false, .int .i64 mx, .int .i64 0, .int .i64 0, .slice none 0 0] := E.set_ 5 (.bool mp)
    have H0 := H.mv (Mv.setCell w10 ⟨w1.heap.size, 5, none⟩ (.bool mp)) (fun q e => by have e' : q = w1.heap.size := e; omega)
    replace K := K.mv (Mv.setCell w10 ⟨w1.heap.size, 5, none⟩ (.bool mp)) (by show ¬ w.heap.size = w1.heap.size; omega)
    replace M := M.over (q := w1.heap.size) (by omega) 5 (.bool mp)
    clear E H
    have E := E0
    have H := H0
    clear E0 H0
    have C := Lib.hid (N11.out _ H)
    clear H
    go_wp2_with fail
    refine (C.out).mono ?_
    rintro e w11 ⟨rfl, m, H⟩
    replace K := K.mv m (by omega)
    replace M := M.trans m (fun _ _ e => e)
    replace E := E.mv m (by omega)
    clear C m
    have FE := E.eleven
    have E0 : Blk (w11.setCell ⟨w1.heap.size, 6, none⟩ (.bool st)) w1.heap.size 31 #[.int .i64 t1n, .int .i64 sb, .string (T t4t), .int .i64 ty, .int .i64 ac, .bool mp, .bool st, .int .i64 mx, .int .i64 0, .int .i64 0, .slice none 0 0] := E.set_ 6 (.bool st)
    have H0 := H.mv (Mv.setCell w11 ⟨w1.heap.size, 6, none⟩ (.bool st)) (fun q e => by have e' : q = w1.heap.size := e; omega)
    replace K := K.mv (Mv.setCell w11 ⟨w1.heap.size, 6, none⟩ (.bool st)) (by show ¬ w.heap.size = w1.heap.size; omega)
    replace M := M.over (q := w1.heap.size) (by omega) 6 (.bool st)
    have FE0 := E0.eleven
    have E1 : Blk ((w11.setCell ⟨w1.heap.size, 6, none⟩ (.bool st)).setCell ⟨w1.heap.size, 8, none⟩ (.int .i64 lo)) w1.heap.size 31 #[.int .i64 t1n, .int .i64 sb, .string (T t4t), .int .i64 ty, .int .i64 ac, .bool mp, .bool st, .int .i64 mx, .int .i64 lo, .int .i64 0, .slice none 0 0] := E0.set_ 8 (.int .i64 lo)
    have H1 := H0.mv (Mv.setCell (w11.setCell ⟨w1.heap.size, 6, none⟩ (.bool st)) ⟨w1.heap.size, 8, none⟩ (.int .i64 lo)) (fun q e => by have e' : q = w1.heap.size := e; omega)
    replace K := K.mv (Mv.setCell (w11.setCell ⟨w1.heap.size, 6, none⟩ (.bool st)) ⟨w1.heap.size, 8, none⟩ (.int .i64 lo)) (by show ¬ w.heap.size = w1.heap.size; omega)
    replace M := M.over (q := w1.heap.size) (by omega) 8 (.int .i64 lo)
    have FE1 := E1.eleven
    have E2 : Blk (((w11.setCell ⟨w1.heap.size, 6, none⟩ (.bool st)).setCell ⟨w1.heap.size, 8, none⟩ (.int .i64 lo)).setCell ⟨w1.heap.size, 9, none⟩ (.int .i64 hi)) w1.heap.size 31 #[.int .i64 t1n, .int .i64 sb, .string (T t4t), .int .i64 ty, .int .i64 ac, .bool mp, .bool st, .int .i64 mx, .int .i64 lo, .int .i64 hi, .slice none 0 0] := E1.set_ 9 (.int .i64 hi)
    have H2 := H1.mv (Mv.setCell ((w11.setCell ⟨w1.heap.size, 6, none⟩ (.bool st)).setCell ⟨w1.heap.size, 8, none⟩ (.int .i64 lo)) ⟨w1.heap.size, 9, none⟩ (.int .i64 hi)) (fun q e => by have e' : q = w1.heap.size := e; omega)
    replace K := K.mv (Mv.setCell ((w11.setCell ⟨w1.heap.size, 6, none⟩ (.bool st)).setCell ⟨w1.heap.size, 8, none⟩ (.int .i64 lo)) ⟨w1.heap.size, 9, none⟩ (.int .i64 hi)) (by show ¬ w.heap.size = w1.heap.size; omega)
    replace M := M.over (q := w1.heap.size) (by omega) 9 (.int .i64 hi)
    clear E H E0 H0 E1 H1
    have E := E2
    have H := H2
    clear E2 H2
    have C := Lib.hid (N16.out _ H)
    clear H
    go_wp2_with fail
    refine (C.out).mono ?_
    rintro e w16 ⟨rfl, m, H⟩
    replace K := K.mv m (by omega)
    replace M := M.trans m (fun _ _ e => e)
    replace E := E.mv m (by omega)
    clear C m
    have C := Lib.hid (N17.out _ H)
    clear H
    go_wp2_with fail
    refine (C.out).mono ?_
    rintro e w17 ⟨rfl, m, H⟩
    replace K := K.mv m (by omega)
    replace M := M.trans m (fun _ _ e => e)
    replace E := E.mv m (by omega)
    clear C m
    have C := Lib.hid (N18.out _ H)
    clear H
    go_wp2_with fail
    refine (C.out).mono ?_
    rintro e w18 ⟨rfl, m, H⟩
    replace K := K.mv m (by omega)
    replace M := M.trans m (fun _ _ e => e)
    replace E := E.mv m (by omega)
    clear C m
    have FE := E.eleven
    have FK := K.eleven
    have R := (K.store11 (.int .i64 t1n) (.int .i64 sb) (.string (T t4t)) (.int .i64 ty) (.int .i64 ac) (.bool mp) (.bool st) (.int .i64 mx) (.int .i64 lo) (.int .i64 hi) (.slice none 0 0)).eleven
    have M2 := Lib.hid ((((((((((((M.over (q := w.heap.size) (Nat.le_refl _) 0 (.int .i64 t1n)).over (q := w.heap.size) (Nat.le_refl _) 1 (.int .i64 sb)).over (q := w.heap.size) (Nat.le_refl _) 2 (.string (T t4t))).over (q := w.heap.size) (Nat.le_refl _) 3 (.int .i64 ty)).over (q := w.heap.size) (Nat.le_refl _) 4 (.int .i64 ac)).over (q := w.heap.size) (Nat.le_refl _) 5 (.bool mp)).over (q := w.heap.size) (Nat.le_refl _) 6 (.bool st)).over (q := w.heap.size) (Nat.le_refl _) 7 (.int .i64 mx)).over (q := w.heap.size) (Nat.le_refl _) 8 (.int .i64 lo)).over (q := w.heap.size) (Nat.le_refl _) 9 (.int .i64 hi)).over (q := w.heap.size) (Nat.le_refl _) 10 (.slice none 0 0)))
    have H2 := Lib.hid ((((((((((((H.mv (Mv.setCell _ ⟨w.heap.size, 0, none⟩ (.int .i64 t1n)) (fun q e => by have e' : q = w.heap.size := e; omega)).mv (Mv.setCell _ ⟨w.heap.size, 1, none⟩ (.int .i64 sb)) (fun q e => by have e' : q = w.heap.size := e; omega)).mv (Mv.setCell _ ⟨w.heap.size, 2, none⟩ (.string (T t4t))) (fun q e => by have e' : q = w.heap.size := e; omega)).mv (Mv.setCell _ ⟨w.heap.size, 3, none⟩ (.int .i64 ty)) (fun q e => by have e' : q = w.heap.size := e; omega)).mv (Mv.setCell _ ⟨w.heap.size, 4, none⟩ (.int .i64 ac)) (fun q e => by have e' : q = w.heap.size := e; omega)).mv (Mv.setCell _ ⟨w.heap.size, 5, none⟩ (.bool mp)) (fun q e => by have e' : q = w.heap.size := e; omega)).mv (Mv.setCell _ ⟨w.heap.size, 6, none⟩ (.bool st)) (fun q e => by have e' : q = w.heap.size := e; omega)).mv (Mv.setCell _ ⟨w.heap.size, 7, none⟩ (.int .i64 mx)) (fun q e => by have e' : q = w.heap.size := e; omega)).mv (Mv.setCell _ ⟨w.heap.size, 8, none⟩ (.int .i64 lo)) (fun q e => by have e' : q = w.heap.size := e; omega)).mv (Mv.setCell _ ⟨w.heap.size, 9, none⟩ (.int .i64 hi)) (fun q e => by have e' : q = w.heap.size := e; omega)).mv (Mv.setCell _ ⟨w.heap.size, 10, none⟩ (.slice none 0 0)) (fun q e => by have e' : q = w.heap.size := e; omega)))
    clear H M E K
    go_wp2_with fail
    exact bodyPost_ret (v := .tuple #[.agg #[.int .i64 t1n, .int .i64 sb, .string (T t4t), .int .i64 ty, .int .i64 ac, .bool mp, .bool st, .int .i64 mx, .int .i64 lo, .int .i64 hi, .slice none 0 0], .string (T t17t)]) (by simp [results, Tryz.results18, go_sem, R]) rfl ⟨rfl, M2.out, H2.out⟩
  · cases hr : Ed.isS ts (Ed.takeS ts (Ed.takeS ts (Ed.rightsR ts (Ed.kindR ts (Ed.needR ts (Ed.needR ts (Ed.needR ts (Ed.needR ts s 3 []) 5 [58]) 2 []) 1 []))) 1 [109, 97, 112]) 1 [115, 116, 111, 114, 101]) 1 [105, 110]
    · skip
      obtain ⟨q1, q2, q3⟩ := ent_num hn hr
      rw [q1, q2, q3]
      clear q1 q2 q3
      have N1 := fun (w : World) (H : RdM w g A n c ts x s) => need_any H 3
      unfold tkW at N1
      generalize Ed.needT ts s 3 = t1 at *
      generalize Ed.needR ts s 3 [] = s1 at *
      obtain ⟨t1k, t1t, t1n, t1p⟩ := t1
      dsimp only at N1 ⊢
      have fd1 := fld2 t1k t1t t1n t1p
      have N2 := fun (w : World) (H : RdM w g A n c ts x s1) => mark_any H [58]
      generalize Ed.needR ts s1 5 [58] = s2 at *
      have N3 := fun (w : World) (H : RdM w g A n c ts x s2) => count_any H
      generalize Ed.cntV (Ed.needT ts s2 2).n = sb at *
      generalize Ed.needR ts s2 2 [] = s3 at *
      have N4 := fun (w : World) (H : RdM w g A n c ts x s3) => need_any H 1
      unfold tkW at N4
      generalize Ed.needT ts s3 1 = t4 at *
      generalize Ed.needR ts s3 1 [] = s4 at *
      obtain ⟨t4k, t4t, t4n, t4p⟩ := t4
      dsimp only at N4 ⊢
      have fd4 := fld1 t4k t4t t4n t4p
      have N5 := fun (w : World) (H : RdM w g A n c ts x s4) => ekind_any H
      generalize Ed.kindT ts s4 = ty at *
      generalize Ed.kindR ts s4 = s5 at *
      unfold Ed.numB at hn
      have LM := fun w => Limits_any ty w
      unfold LimPost at LM
      generalize Ty.limS ty = lm at *
      obtain ⟨lo, hi, nb⟩ := lm
      dsimp only at LM hn ⊢
      subst hn
      have N9 := fun (w : World) (H : RdM w g A n c ts x s5) => erights_any H
      generalize Ed.rightsT ts s5 = ac at *
      generalize Ed.rightsR ts s5 = s9 at *
      have N10 := fun (w : World) (H : RdM w g A n c ts x s9) => take_any H 1 [109, 97, 112]
      generalize Ed.isS ts s9 1 [109, 97, 112] = mp at *
      generalize Ed.takeS ts s9 1 [109, 97, 112] = s10 at *
      have N11 := fun (w : World) (H : RdM w g A n c ts x s10) => take_any H 1 [115, 116, 111, 114, 101]
      generalize Ed.isS ts s10 1 [115, 116, 111, 114, 101] = st at *
      generalize Ed.takeS ts s10 1 [115, 116, 111, 114, 101] = s11 at *
      have N12 := fun (w : World) (H : RdM w g A n c ts x s11) => take_any H 1 [105, 110]
      have hty := take_no hr
      simp only [hr, hty] at N12
      clear hr hty
      have N16 := fun (w : World) (H : RdM w g A n c ts x s11) => mark_any H [61]
      generalize Ed.needR ts s11 5 [61] = s16 at *
      have N17 := fun (w : World) (H : RdM w g A n c ts x s16) => need_any H 2
      unfold tkW at N17
      generalize Ed.needT ts s16 2 = t17 at *
      generalize Ed.needR ts s16 2 [] = s17 at *
      obtain ⟨t17k, t17t, t17n, t17p⟩ := t17
      dsimp only at N17 ⊢
      have fd17 := fld1 t17k t17t t17n t17p
      have N18 := fun (w : World) (H : RdM w g A n c ts x s17) => mark_any H [59]
      generalize Ed.needR ts s17 5 [59] = s18 at *
      replace N1 := Lib.hid N1
      replace N2 := Lib.hid N2
      replace N3 := Lib.hid N3
      replace N4 := Lib.hid N4
      replace N5 := Lib.hid N5
      replace N9 := Lib.hid N9
      replace N10 := Lib.hid N10
      replace N11 := Lib.hid N11
      replace N12 := Lib.hid N12
      replace N16 := Lib.hid N16
      replace N17 := Lib.hid N17
      replace N18 := Lib.hid N18
      replace LM := Lib.hid LM
      go_enter Tryz.func18, Tryz.ntmps18
      have C := Lib.hid (N1.out _ H)
      clear H
      go_wp2_with fail
      refine (C.out).mono ?_
      rintro e w1 ⟨rfl, m, H⟩
      replace K := K.mv m (by omega)
      replace M := M.trans m (fun _ _ e => e)
      have hz1 := m.size
      clear C m
      have be := alloc_one w1 (.cells #[.int .i64 t1n, .int .i64 0, .string ⟨#[]⟩, .int .i64 0, .int .i64 0, .bool false, .bool false, .int .i64 0, .int .i64 0, .int .i64 0, .slice none 0 0] 31)
      have E := Blk.new w1 31 #[.int .i64 t1n, .int .i64 0, .string ⟨#[]⟩, .int .i64 0, .int .i64 0, .bool false, .bool false, .int .i64 0, .int .i64 0, .int .i64 0, .slice none 0 0]
      replace K := K.later be
      replace M := M.trans (Mv.of_new be (fun q => q = g)) (fun _ _ e => e)
      replace H := H.below be
      have hge0 : w.heap.size < w1.heap.size := by omega
      clear be
      have C := Lib.hid (N2.out _ H)
      clear H
      go_wp2_with fail
      refine (C.out).mono ?_
      rintro e w2 ⟨rfl, m, H⟩
      replace K := K.mv m (by omega)
      replace M := M.trans m (fun _ _ e => e)
      replace E := E.mv m (by omega)
      clear C m
      have C := Lib.hid (N3.out _ H)
      clear H
      go_wp2_with fail
      refine (C.out).mono ?_
      rintro e w3 ⟨rfl, m, H⟩
      replace K := K.mv m (by omega)
      replace M := M.trans m (fun _ _ e => e)
      replace E := E.mv m (by omega)
      clear C m
      have FE := E.eleven
      have E0 : Blk (w3.setCell ⟨w1.heap.size, 1, none⟩ (.int .i64 sb)) w1.heap.size 31 #[.int .i64 t1n, .int .i64 sb, .string ⟨#[]⟩, .int .i64 0, .int .i64 0, .bool false, .bool false, .int .i64 0, .int .i64 0, .int .i64 0, .slice none 0 0] := E.set_ 1 (.int .i64 sb)
      have H0 := H.mv (Mv.setCell w3 ⟨w1.heap.size, 1, none⟩ (.int .i64 sb)) (fun q e => by have e' : q = w1.heap.size := e; omega)
      replace K := K.mv (Mv.setCell w3 ⟨w1.heap.size, 1, none⟩ (.int .i64 sb)) (by show ¬ w.heap.size = w1.heap.size; omega)
      replace M := M.over (q := w1.heap.size) (by omega) 1 (.int .i64 sb)
      clear E H
      have E := E0
      have H := H0
      clear E0 H0
      have C := Lib.hid (N4.out _ H)
      clear H
      go_wp2_with fail
      refine (C.out).mono ?_
      rintro e w4 ⟨rfl, m, H⟩
      replace K := K.mv m (by omega)
      replace M := M.trans m (fun _ _ e => e)
      replace E := E.mv m (by omega)
      clear C m
      have FE := E.eleven
      have E0 : Blk (w4.setCell ⟨w1.heap.size, 2, none⟩ (.string (T t4t))) w1.heap.size 31 #[.int .i64 t1n, .int .i64 sb, .string (T t4t), .int .i64 0, .int .i64 0, .bool false, .bool false, .int .i64 0, .int .i64 0, .int .i64 0, .slice none 0 0] := E.set_ 2 (.string (T t4t))
      have H0 := H.mv (Mv.setCell w4 ⟨w1.heap.size, 2, none⟩ (.string (T t4t))) (fun q e => by have e' : q = w1.heap.size := e; omega)
      replace K := K.mv (Mv.setCell w4 ⟨w1.heap.size, 2, none⟩ (.string (T t4t))) (by show ¬ w.heap.size = w1.heap.size; omega)
      replace M := M.over (q := w1.heap.size) (by omega) 2 (.string (T t4t))
      clear E H
      have E := E0
      have H := H0
      clear E0 H0
      have C := Lib.hid (N5.out _ H)
      clear H
      go_wp2_with fail
      refine (C.out).mono ?_
      rintro e w5 ⟨rfl, m, H⟩
      replace K := K.mv m (by omega)
      replace M := M.trans m (fun _ _ e => e)
      replace E := E.mv m (by omega)
      clear C m
      have FE := E.eleven
      have E0 : Blk (w5.setCell ⟨w1.heap.size, 3, none⟩ (.int .i64 ty)) w1.heap.size 31 #[.int .i64 t1n, .int .i64 sb, .string (T t4t), .int .i64 ty, .int .i64 0, .bool false, .bool false, .int .i64 0, .int .i64 0, .int .i64 0, .slice none 0 0] := E.set_ 3 (.int .i64 ty)
      have H0 := H.mv (Mv.setCell w5 ⟨w1.heap.size, 3, none⟩ (.int .i64 ty)) (fun q e => by have e' : q = w1.heap.size := e; omega)
      replace K := K.mv (Mv.setCell w5 ⟨w1.heap.size, 3, none⟩ (.int .i64 ty)) (by show ¬ w.heap.size = w1.heap.size; omega)
      replace M := M.over (q := w1.heap.size) (by omega) 3 (.int .i64 ty)
      clear E H
      have E := E0
      have H := H0
      clear E0 H0
      have FE := E.eleven
      go_wp2_with fail
      refine (LM.out _).mono ?_
      rintro e wl ⟨rfl, bl⟩
      replace K := K.later bl
      replace E := E.later bl
      replace H := H.below bl
      replace M := M.trans (Mv.of_new bl (fun q => q = g)) (fun _ _ e => e)
      clear FE bl
      have C := Lib.hid (N9.out _ H)
      clear H
      go_wp2_with fail
      refine (C.out).mono ?_
      rintro e w9 ⟨rfl, m, H⟩
      replace K := K.mv m (by omega)
      replace M := M.trans m (fun _ _ e => e)
      replace E := E.mv m (by omega)
      clear C m
      have FE := E.eleven
      have E0 : Blk (w9.setCell ⟨w1.heap.size, 4, none⟩ (.int .i64 ac)) w1.heap.size 31 #[.int .i64 t1n, .int .i64 sb, .string (T t4t), .int .i64 ty, .int .i64 ac, .bool false, .bool false, .int .i64 0, .int .i64 0, .int .i64 0, .slice none 0 0] := E.set_ 4 (.int .i64 ac)
      have H0 := H.mv (Mv.setCell w9 ⟨w1.heap.size, 4, none⟩ (.int .i64 ac)) (fun q e => by have e' : q = w1.heap.size := e; omega)
      replace K := K.mv (Mv.setCell w9 ⟨w1.heap.size, 4, none⟩ (.int .i64 ac)) (by show ¬ w.heap.size = w1.heap.size; omega)
      replace M := M.over (q := w1.heap.size) (by omega) 4 (.int .i64 ac)
      clear E H
      have E := E0
      have H := H0
      clear E0 H0
      have C := Lib.hid (N10.out _ H)
      clear H
      go_wp2_with fail
      refine (C.out).mono ?_
      rintro e w10 ⟨rfl, m, H⟩
      replace K := K.mv m (by omega)
      replace M := M.trans m (fun _ _ e => e)
      replace E := E.mv m (by omega)
      clear C m
      have FE := E.eleven
      have E0 : Blk (w10.setCell ⟨w1.heap.size, 5, none⟩ (.bool mp)) w1.heap.size 31 #[.int .i64 t1n, .int .i64 sb, .string (T t4t), .int .i64 ty, .int .i64 ac, .bool mp, .bool false, .int .i64 0, .int .i64 0, .int .i64 0, .slice none 0 0] := E.set_ 5 (.bool mp)
      have H0 := H.mv (Mv.setCell w10 ⟨w1.heap.size, 5, none⟩ (.bool mp)) (fun q e => by have e' : q = w1.heap.size := e; omega)
      replace K := K.mv (Mv.setCell w10 ⟨w1.heap.size, 5, none⟩ (.bool mp)) (by show ¬ w.heap.size = w1.heap.size; omega)
      replace M := M.over (q := w1.heap.size) (by omega) 5 (.bool mp)
      clear E H
      have E := E0
      have H := H0
      clear E0 H0
      have C := Lib.hid (N11.out _ H)
      clear H
      go_wp2_with fail
      refine (C.out).mono ?_
      rintro e w11 ⟨rfl, m, H⟩
      replace K := K.mv m (by omega)
      replace M := M.trans m (fun _ _ e => e)
      replace E := E.mv m (by omega)
      clear C m
      have FE := E.eleven
      have E0 : Blk (w11.setCell ⟨w1.heap.size, 6, none⟩ (.bool st)) w1.heap.size 31 #[.int .i64 t1n, .int .i64 sb, .string (T t4t), .int .i64 ty, .int .i64 ac, .bool mp, .bool st, .int .i64 0, .int .i64 0, .int .i64 0, .slice none 0 0] := E.set_ 6 (.bool st)
      have H0 := H.mv (Mv.setCell w11 ⟨w1.heap.size, 6, none⟩ (.bool st)) (fun q e => by have e' : q = w1.heap.size := e; omega)
      replace K := K.mv (Mv.setCell w11 ⟨w1.heap.size, 6, none⟩ (.bool st)) (by show ¬ w.heap.size = w1.heap.size; omega)
      replace M := M.over (q := w1.heap.size) (by omega) 6 (.bool st)
      have FE0 := E0.eleven
      have E1 : Blk ((w11.setCell ⟨w1.heap.size, 6, none⟩ (.bool st)).setCell ⟨w1.heap.size, 8, none⟩ (.int .i64 lo)) w1.heap.size 31 #[.int .i64 t1n, .int .i64 sb, .string (T t4t), .int .i64 ty, .int .i64 ac, .bool mp, .bool st, .int .i64 0, .int .i64 lo, .int .i64 0, .slice none 0 0] := E0.set_ 8 (.int .i64 lo)
      have H1 := H0.mv (Mv.setCell (w11.setCell ⟨w1.heap.size, 6, none⟩ (.bool st)) ⟨w1.heap.size, 8, none⟩ (.int .i64 lo)) (fun q e => by have e' : q = w1.heap.size := e; omega)
      replace K := K.mv (Mv.setCell (w11.setCell ⟨w1.heap.size, 6, none⟩ (.bool st)) ⟨w1.heap.size, 8, none⟩ (.int .i64 lo)) (by show ¬ w.heap.size = w1.heap.size; omega)
      replace M := M.over (q := w1.heap.size) (by omega) 8 (.int .i64 lo)
      have FE1 := E1.eleven
      have E2 : Blk (((w11.setCell ⟨w1.heap.size, 6, none⟩ (.bool st)).setCell ⟨w1.heap.size, 8, none⟩ (.int .i64 lo)).setCell ⟨w1.heap.size, 9, none⟩ (.int .i64 hi)) w1.heap.size 31 #[.int .i64 t1n, .int .i64 sb, .string (T t4t), .int .i64 ty, .int .i64 ac, .bool mp, .bool st, .int .i64 0, .int .i64 lo, .int .i64 hi, .slice none 0 0] := E1.set_ 9 (.int .i64 hi)
      have H2 := H1.mv (Mv.setCell ((w11.setCell ⟨w1.heap.size, 6, none⟩ (.bool st)).setCell ⟨w1.heap.size, 8, none⟩ (.int .i64 lo)) ⟨w1.heap.size, 9, none⟩ (.int .i64 hi)) (fun q e => by have e' : q = w1.heap.size := e; omega)
      replace K := K.mv (Mv.setCell ((w11.setCell ⟨w1.heap.size, 6, none⟩ (.bool st)).setCell ⟨w1.heap.size, 8, none⟩ (.int .i64 lo)) ⟨w1.heap.size, 9, none⟩ (.int .i64 hi)) (by show ¬ w.heap.size = w1.heap.size; omega)
      replace M := M.over (q := w1.heap.size) (by omega) 9 (.int .i64 hi)
      clear E H E0 H0 E1 H1
      have E := E2
      have H := H2
      clear E2 H2
      have C := Lib.hid (N12.out _ H)
      clear H
      go_wp2_with fail
      refine (C.out).mono ?_
      rintro e w12 ⟨rfl, m, H⟩
      replace K := K.mv m (by omega)
      replace M := M.trans m (fun _ _ e => e)
      replace E := E.mv m (by omega)
      clear C m
      have C := Lib.hid (N16.out _ H)
      clear H
      go_wp2_with fail
      refine (C.out).mono ?_
      rintro e w16 ⟨rfl, m, H⟩
      replace K := K.mv m (by omega)
      replace M := M.trans m (fun _ _ e => e)
      replace E := E.mv m (by omega)
      clear C m
      have C := Lib.hid (N17.out _ H)
      clear H
      go_wp2_with fail
      refine (C.out).mono ?_
      rintro e w17 ⟨rfl, m, H⟩
      replace K := K.mv m (by omega)
      replace M := M.trans m (fun _ _ e => e)
      replace E := E.mv m (by omega)
      clear C m
      have C := Lib.hid (N18.out _ H)
      clear H
      go_wp2_with fail
      refine (C.out).mono ?_
      rintro e w18 ⟨rfl, m, H⟩
      replace K := K.mv m (by omega)
      replace M := M.trans m (fun _ _ e => e)
      replace E := E.mv m (by omega)
      clear C m
      have FE := E.eleven
      have FK := K.eleven
      have R := (K.store11 (.int .i64 t1n) (.int .i64 sb) (.string (T t4t)) (.int .i64 ty) (.int .i64 ac) (.bool mp) (.bool st) (.int .i64 0) (.int .i64 lo) (.int .i64 hi) (.slice none 0 0)).eleven
      have M2 := Lib.hid ((((((((((((M.over (q := w.heap.size) (Nat.le_refl _) 0 (.int .i64 t1n)).over (q := w.heap.size) (Nat.le_refl _) 1 (.int .i64 sb)).over (q := w.heap.size) (Nat.le_refl _) 2 (.string (T t4t))).over (q := w.heap.size) (Nat.le_refl _) 3 (.int .i64 ty)).over (q := w.heap.size) (Nat.le_refl _) 4 (.int .i64 ac)).over (q := w.heap.size) (Nat.le_refl _) 5 (.bool mp)).over (q := w.heap.size) (Nat.le_refl _) 6 (.bool st)).over (q := w.heap.size) (Nat.le_refl _) 7 (.int .i64 0)).over (q := w.heap.size) (Nat.le_refl _) 8 (.int .i64 lo)).over (q := w.heap.size) (Nat.le_refl _) 9 (.int .i64 hi)).over (q := w.heap.size) (Nat.le_refl _) 10 (.slice none 0 0)))
      have H2 := Lib.hid ((((((((((((H.mv (Mv.setCell _ ⟨w.heap.size, 0, none⟩ (.int .i64 t1n)) (fun q e => by have e' : q = w.heap.size := e; omega)).mv (Mv.setCell _ ⟨w.heap.size, 1, none⟩ (.int .i64 sb)) (fun q e => by have e' : q = w.heap.size := e; omega)).mv (Mv.setCell _ ⟨w.heap.size, 2, none⟩ (.string (T t4t))) (fun q e => by have e' : q = w.heap.size := e; omega)).mv (Mv.setCell _ ⟨w.heap.size, 3, none⟩ (.int .i64 ty)) (fun q e => by have e' : q = w.heap.size := e; omega)).mv (Mv.setCell _ ⟨w.heap.size, 4, none⟩ (.int .i64 ac)) (fun q e => by have e' : q = w.heap.size := e; omega)).mv (Mv.setCell _ ⟨w.heap.size, 5, none⟩ (.bool mp)) (fun q e => by have e' : q = w.heap.size := e; omega)).mv (Mv.setCell _ ⟨w.heap.size, 6, none⟩ (.bool st)) (fun q e => by have e' : q = w.heap.size := e; omega)).mv (Mv.setCell _ ⟨w.heap.size, 7, none⟩ (.int .i64 0)) (fun q e => by have e' : q = w.heap.size := e; omega)).mv (Mv.setCell _ ⟨w.heap.size, 8, none⟩ (.int .i64 lo)) (fun q e => by have e' : q = w.heap.size := e; omega)).mv (Mv.setCell _ ⟨w.heap.size, 9, none⟩ (.int .i64 hi)) (fun q e => by have e' : q = w.heap.size := e; omega)).mv (Mv.setCell _ ⟨w.heap.size, 10, none⟩ (.slice none 0 0)) (fun q e => by have e' : q = w.heap.size := e; omega)))
      clear H M E K
      go_wp2_with fail
      exact bodyPost_ret (v := .tuple #[.agg #[.int .i64 t1n, .int .i64 sb, .string (T t4t), .int .i64 ty, .int .i64 ac, .bool mp, .bool st, .int .i64 0, .int .i64 lo, .int .i64 hi, .slice none 0 0], .string (T t17t)]) (by simp [results, Tryz.results18, go_sem, R]) rfl ⟨rfl, M2.out, H2.out⟩
    · skip
      obtain ⟨q1, q2, q3⟩ := ent_rng hn hr
      rw [q1, q2, q3]
      clear q1 q2 q3
      have N1 := fun (w : World) (H : RdM w g A n c ts x s) => need_any H 3
      unfold tkW at N1
      generalize Ed.needT ts s 3 = t1 at *
      generalize Ed.needR ts s 3 [] = s1 at *
      obtain ⟨t1k, t1t, t1n, t1p⟩ := t1
      dsimp only at N1 ⊢
      have fd1 := fld2 t1k t1t t1n t1p
      have N2 := fun (w : World) (H : RdM w g A n c ts x s1) => mark_any H [58]
      generalize Ed.needR ts s1 5 [58] = s2 at *
      have N3 := fun (w : World) (H : RdM w g A n c ts x s2) => count_any H
      generalize Ed.cntV (Ed.needT ts s2 2).n = sb at *
      generalize Ed.needR ts s2 2 [] = s3 at *
      have N4 := fun (w : World) (H : RdM w g A n c ts x s3) => need_any H 1
      unfold tkW at N4
      generalize Ed.needT ts s3 1 = t4 at *
      generalize Ed.needR ts s3 1 [] = s4 at *
      obtain ⟨t4k, t4t, t4n, t4p⟩ := t4
      dsimp only at N4 ⊢
      have fd4 := fld1 t4k t4t t4n t4p
      have N5 := fun (w : World) (H : RdM w g A n c ts x s4) => ekind_any H
      generalize Ed.kindT ts s4 = ty at *
      generalize Ed.kindR ts s4 = s5 at *
      unfold Ed.numB at hn
      have LM := fun w => Limits_any ty w
      unfold LimPost at LM
      generalize Ty.limS ty = lm at *
      obtain ⟨lo, hi, nb⟩ := lm
      dsimp only at LM hn ⊢
      subst hn
      have N9 := fun (w : World) (H : RdM w g A n c ts x s5) => erights_any H
      generalize Ed.rightsT ts s5 = ac at *
      generalize Ed.rightsR ts s5 = s9 at *
      have N10 := fun (w : World) (H : RdM w g A n c ts x s9) => take_any H 1 [109, 97, 112]
      generalize Ed.isS ts s9 1 [109, 97, 112] = mp at *
      generalize Ed.takeS ts s9 1 [109, 97, 112] = s10 at *
      have N11 := fun (w : World) (H : RdM w g A n c ts x s10) => take_any H 1 [115, 116, 111, 114, 101]
      generalize Ed.isS ts s10 1 [115, 116, 111, 114, 101] = st at *
      generalize Ed.takeS ts s10 1 [115, 116, 111, 114, 101] = s11 at *
      have N12 := fun (w : World) (H : RdM w g A n c ts x s11) => take_any H 1 [105, 110]
      have hty := take_yes hr
      simp only [hr, hty] at N12
      clear hr hty
      generalize Ed.stepS s11 = s12 at *
      have N13 := fun (w : World) (H : RdM w g A n c ts x s12) => need_any H 2
      unfold tkW at N13
      generalize Ed.needT ts s12 2 = t13 at *
      generalize Ed.needR ts s12 2 [] = s13 at *
      obtain ⟨t13k, t13t, t13n, t13p⟩ := t13
      dsimp only at N13 ⊢
      have fd13 := fld2 t13k t13t t13n t13p
      have N14 := fun (w : World) (H : RdM w g A n c ts x s13) => mark_any H [46, 46]
      generalize Ed.needR ts s13 5 [46, 46] = s14 at *
      have N15 := fun (w : World) (H : RdM w g A n c ts x s14) => need_any H 2
      unfold tkW at N15
      generalize Ed.needT ts s14 2 = t15 at *
      generalize Ed.needR ts s14 2 [] = s15 at *
      obtain ⟨t15k, t15t, t15n, t15p⟩ := t15
      dsimp only at N15 ⊢
      have fd15 := fld2 t15k t15t t15n t15p
      have N16 := fun (w : World) (H : RdM w g A n c ts x s15) => mark_any H [61]
      generalize Ed.needR ts s15 5 [61] = s16 at *
      have N17 := fun (w : World) (H : RdM w g A n c ts x s16) => need_any H 2
      unfold tkW at N17
      generalize Ed.needT ts s16 2 = t17 at *
      generalize Ed.needR ts s16 2 [] = s17 at *
      obtain ⟨t17k, t17t, t17n, t17p⟩ := t17
      dsimp only at N17 ⊢
      have fd17 := fld1 t17k t17t t17n t17p
      have N18 := fun (w : World) (H : RdM w g A n c ts x s17) => mark_any H [59]
      generalize Ed.needR ts s17 5 [59] = s18 at *
      replace N1 := Lib.hid N1
      replace N2 := Lib.hid N2
      replace N3 := Lib.hid N3
      replace N4 := Lib.hid N4
      replace N5 := Lib.hid N5
      replace N9 := Lib.hid N9
      replace N10 := Lib.hid N10
      replace N11 := Lib.hid N11
      replace N12 := Lib.hid N12
      replace N13 := Lib.hid N13
      replace N14 := Lib.hid N14
      replace N15 := Lib.hid N15
      replace N16 := Lib.hid N16
      replace N17 := Lib.hid N17
      replace N18 := Lib.hid N18
      replace LM := Lib.hid LM
      go_enter Tryz.func18, Tryz.ntmps18
      have C := Lib.hid (N1.out _ H)
      clear H
      go_wp2_with fail
      refine (C.out).mono ?_
      rintro e w1 ⟨rfl, m, H⟩
      replace K := K.mv m (by omega)
      replace M := M.trans m (fun _ _ e => e)
      have hz1 := m.size
      clear C m
      have be := alloc_one w1 (.cells #[.int .i64 t1n, .int .i64 0, .string ⟨#[]⟩, .int .i64 0, .int .i64 0, .bool false, .bool false, .int .i64 0, .int .i64 0, .int .i64 0, .slice none 0 0] 31)
      have E := Blk.new w1 31 #[.int .i64 t1n, .int .i64 0, .string ⟨#[]⟩, .int .i64 0, .int .i64 0, .bool false, .bool false, .int .i64 0, .int .i64 0, .int .i64 0, .slice none 0 0]
      replace K := K.later be
      replace M := M.trans (Mv.of_new be (fun q => q = g)) (fun _ _ e => e)
      replace H := H.below be
      have hge0 : w.heap.size < w1.heap.size := by omega
      clear be
      have C := Lib.hid (N2.out _ H)
      clear H
      go_wp2_with fail
      refine (C.out).mono ?_
      rintro e w2 ⟨rfl, m, H⟩
      replace K := K.mv m (by omega)
      replace M := M.trans m (fun _ _ e => e)
      replace E := E.mv m (by omega)
      clear C m
      have C := Lib.hid (N3.out _ H)
      clear H
      go_wp2_with fail
      refine (C.out).mono ?_
      rintro e w3 ⟨rfl, m, H⟩
      replace K := K.mv m (by omega)
      replace M := M.trans m (fun _ _ e => e)
      replace E := E.mv m (by omega)
      clear C m
      have FE := E.eleven
      have E0 : Blk (w3.setCell ⟨w1.heap.size, 1, none⟩ (.int .i64 sb)) w1.heap.size 31 #[.int .i64 t1n, .int .i64 sb, .string ⟨#[]⟩, .int .i64 0, .int .i64 0, .bool false, .bool false, .int .i64 0, .int .i64 0, .int .i64 0, .slice none 0 0] := E.set_ 1 (.int .i64 sb)
      have H0 := H.mv (Mv.setCell w3 ⟨w1.heap.size, 1, none⟩ (.int .i64 sb)) (fun q e => by have e' : q = w1.heap.size := e; omega)
      replace K := K.mv (Mv.setCell w3 ⟨w1.heap.size, 1, none⟩ (.int .i64 sb)) (by show ¬ w.heap.size = w1.heap.size; omega)
      replace M := M.over (q := w1.heap.size) (by omega) 1 (.int .i64 sb)
      clear E H
      have E := E0
      have H := H0
      clear E0 H0
      have C := Lib.hid (N4.out _ H)
      clear H
      go_wp2_with fail
      refine (C.out).mono ?_
      rintro e w4 ⟨rfl, m, H⟩
      replace K := K.mv m (by omega)
      replace M := M.trans m (fun _ _ e => e)
      replace E := E.mv m (by omega)
      clear C m
      have FE := E.eleven
      have E0 : Blk (w4.setCell ⟨w1.heap.size, 2, none⟩ (.string (T t4t))) w1.heap.size 31 #[.int .i64 t1n, .int .i64 sb, .string (T t4t), .int .i64 0, .int .i64 0, .bool false, .bool false, .int .i64 0, .int .i64 0, .int .i64 0, .slice none 0 0] := E.set_ 2 (.string (T t4t))
      have H0 := H.mv (Mv.setCell w4 ⟨w1.heap.size, 2, none⟩ (.string (T t4t))) (fun q e => by have e' : q = w1.heap.size := e; omega)
      replace K := K.mv (Mv.setCell w4 ⟨w1.heap.size, 2, none⟩ (.string (T t4t))) (by show ¬ w.heap.size = w1.heap.size; omega)
      replace M := M.over (q := w1.heap.size) (by omega) 2 (.string (T t4t))
      clear E H
      have E := E0
      have H := H0
      clear E0 H0
      have C := Lib.hid (N5.out _ H)
      clear H
      go_wp2_with fail
      refine (C.out).mono ?_
      rintro e w5 ⟨rfl, m, H⟩
      replace K := K.mv m (by omega)
      replace M := M.trans m (fun _ _ e => e)
      replace E := E.mv m (by omega)
      clear C m
      have FE := E.eleven
      have E0 : Blk (w5.setCell ⟨w1.heap.size, 3, none⟩ (.int .i64 ty)) w1.heap.size 31 #[.int .i64 t1n, .int .i64 sb, .string (T t4t), .int .i64 ty, .int .i64 0, .bool false, .bool false, .int .i64 0, .int .i64 0, .int .i64 0, .slice none 0 0] := E.set_ 3 (.int .i64 ty)
      have H0 := H.mv (Mv.setCell w5 ⟨w1.heap.size, 3, none⟩ (.int .i64 ty)) (fun q e => by have e' : q = w1.heap.size := e; omega)
      replace K := K.mv (Mv.setCell w5 ⟨w1.heap.size, 3, none⟩ (.int .i64 ty)) (by show ¬ w.heap.size = w1.heap.size; omega)
      replace M := M.over (q := w1.heap.size) (by omega) 3 (.int .i64 ty)
      clear E H
      have E := E0
      have H := H0
      clear E0 H0
      have FE := E.eleven
      go_wp2_with fail
      refine (LM.out _).mono ?_
      rintro e wl ⟨rfl, bl⟩
      replace K := K.later bl
      replace E := E.later bl
      replace H := H.below bl
      replace M := M.trans (Mv.of_new bl (fun q => q = g)) (fun _ _ e => e)
      clear FE bl
      have C := Lib.hid (N9.out _ H)
      clear H
      go_wp2_with fail
      refine (C.out).mono ?_
      rintro e w9 ⟨rfl, m, H⟩
      replace K := K.mv m (by omega)
      replace M := M.trans m (fun _ _ e => e)
      replace E := E.mv m (by omega)
      clear C m
      have FE := E.eleven
      have E0 : Blk (w9.setCell ⟨w1.heap.size, 4, none⟩ (.int .i64 ac)) w1.heap.size 31 #[.int .i64 t1n, .int .i64 sb, .string (T t4t), .int .i64 ty, .int .i64 ac, .bool false, .bool false, .int .i64 0, .int .i64 0, .int .i64 0, .slice none 0 0] := E.set_ 4 (.int .i64 ac)
      have H0 := H.mv (Mv.setCell w9 ⟨w1.heap.size, 4, none⟩ (.int .i64 ac)) (fun q e => by have e' : q = w1.heap.size := e; omega)
      replace K := K.mv (Mv.setCell w9 ⟨w1.heap.size, 4, none⟩ (.int .i64 ac)) (by show ¬ w.heap.size = w1.heap.size; omega)
      replace M := M.over (q := w1.heap.size) (by omega) 4 (.int .i64 ac)
      clear E H
      have E := E0
      have H := H0
      clear E0 H0
      have C := Lib.hid (N10.out _ H)
      clear H
      go_wp2_with fail
      refine (C.out).mono ?_
      rintro e w10 ⟨rfl, m, H⟩
      replace K := K.mv m (by omega)
      replace M := M.trans m (fun _ _ e => e)
      replace E := E.mv m (by omega)
      clear C m
      have FE := E.eleven
      have E0 : Blk (w10.setCell ⟨w1.heap.size, 5, none⟩ (.bool mp)) w1.heap.size 31 #[.int .i64 t1n, .int .i64 sb, .string (T t4t), .int .i64 ty, .int .i64 ac, .bool mp, .bool false, .int .i64 0, .int .i64 0, .int .i64 0, .slice none 0 0] := E.set_ 5 (.bool mp)
      have H0 := H.mv (Mv.setCell w10 ⟨w1.heap.size, 5, none⟩ (.bool mp)) (fun q e => by have e' : q = w1.heap.size := e; omega)
      replace K := K.mv (Mv.setCell w10 ⟨w1.heap.size, 5, none⟩ (.bool mp)) (by show ¬ w.heap.size = w1.heap.size; omega)
      replace M := M.over (q := w1.heap.size) (by omega) 5 (.bool mp)
      clear E H
      have E := E0
      have H := H0
      clear E0 H0
      have C := Lib.hid (N11.out _ H)
      clear H
      go_wp2_with fail
      refine (C.out).mono ?_
      rintro e w11 ⟨rfl, m, H⟩
      replace K := K.mv m (by omega)
      replace M := M.trans m (fun _ _ e => e)
      replace E := E.mv m (by omega)
      clear C m
      have FE := E.eleven
      have E0 : Blk (w11.setCell ⟨w1.heap.size, 6, none⟩ (.bool st)) w1.heap.size 31 #[.int .i64 t1n, .int .i64 sb, .string (T t4t), .int .i64 ty, .int .i64 ac, .bool mp, .bool st, .int .i64 0, .int .i64 0, .int .i64 0, .slice none 0 0] := E.set_ 6 (.bool st)
      have H0 := H.mv (Mv.setCell w11 ⟨w1.heap.size, 6, none⟩ (.bool st)) (fun q e => by have e' : q = w1.heap.size := e; omega)
      replace K := K.mv (Mv.setCell w11 ⟨w1.heap.size, 6, none⟩ (.bool st)) (by show ¬ w.heap.size = w1.heap.size; omega)
      replace M := M.over (q := w1.heap.size) (by omega) 6 (.bool st)
      have FE0 := E0.eleven
      have E1 : Blk ((w11.setCell ⟨w1.heap.size, 6, none⟩ (.bool st)).setCell ⟨w1.heap.size, 8, none⟩ (.int .i64 lo)) w1.heap.size 31 #[.int .i64 t1n, .int .i64 sb, .string (T t4t), .int .i64 ty, .int .i64 ac, .bool mp, .bool st, .int .i64 0, .int .i64 lo, .int .i64 0, .slice none 0 0] := E0.set_ 8 (.int .i64 lo)
      have H1 := H0.mv (Mv.setCell (w11.setCell ⟨w1.heap.size, 6, none⟩ (.bool st)) ⟨w1.heap.size, 8, none⟩ (.int .i64 lo)) (fun q e => by have e' : q = w1.heap.size := e; omega)
      replace K := K.mv (Mv.setCell (w11.setCell ⟨w1.heap.size, 6, none⟩ (.bool st)) ⟨w1.heap.size, 8, none⟩ (.int .i64 lo)) (by show ¬ w.heap.size = w1.heap.size; omega)
      replace M := M.over (q := w1.heap.size) (by omega) 8 (.int .i64 lo)
      have FE1 := E1.eleven
      have E2 : Blk (((w11.setCell ⟨w1.heap.size, 6, none⟩ (.bool st)).setCell ⟨w1.heap.size, 8, none⟩ (.int .i64 lo)).setCell ⟨w1.heap.size, 9, none⟩ (.int .i64 hi)) w1.heap.size 31 #[.int .i64 t1n, .int .i64 sb, .string (T t4t), .int .i64 ty, .int .i64 ac, .bool mp, .bool st, .int .i64 0, .int .i64 lo, .int .i64 hi, .slice none 0 0] := E1.set_ 9 (.int .i64 hi)
      have H2 := H1.mv (Mv.setCell ((w11.setCell ⟨w1.heap.size, 6, none⟩ (.bool st)).setCell ⟨w1.heap.size, 8, none⟩ (.int .i64 lo)) ⟨w1.heap.size, 9, none⟩ (.int .i64 hi)) (fun q e => by have e' : q = w1.heap.size := e; omega)
      replace K := K.mv (Mv.setCell ((w11.setCell ⟨w1.heap.size, 6, none⟩ (.bool st)).setCell ⟨w1.heap.size, 8, none⟩ (.int .i64 lo)) ⟨w1.heap.size, 9, none⟩ (.int .i64 hi)) (by show ¬ w.heap.size = w1.heap.size; omega)
      replace M := M.over (q := w1.heap.size) (by omega) 9 (.int .i64 hi)
      clear E H E0 H0 E1 H1
      have E := E2
      have H := H2
      clear E2 H2
      have C := Lib.hid (N12.out _ H)
      clear H
      go_wp2_with fail
      refine (C.out).mono ?_
      rintro e w12 ⟨rfl, m, H⟩
      replace K := K.mv m (by omega)
      replace M := M.trans m (fun _ _ e => e)
      replace E := E.mv m (by omega)
      clear C m
      have C := Lib.hid (N13.out _ H)
      clear H
      go_wp2_with fail
      refine (C.out).mono ?_
      rintro e w13 ⟨rfl, m, H⟩
      replace K := K.mv m (by omega)
      replace M := M.trans m (fun _ _ e => e)
      replace E := E.mv m (by omega)
      clear C m
      have FE := E.eleven
      have E0 : Blk (w13.setCell ⟨w1.heap.size, 8, none⟩ (.int .i64 t13n)) w1.heap.size 31 #[.int .i64 t1n, .int .i64 sb, .string (T t4t), .int .i64 ty, .int .i64 ac, .bool mp, .bool st, .int .i64 0, .int .i64 t13n, .int .i64 hi, .slice none 0 0] := E.set_ 8 (.int .i64 t13n)
      have H0 := H.mv (Mv.setCell w13 ⟨w1.heap.size, 8, none⟩ (.int .i64 t13n)) (fun q e => by have e' : q = w1.heap.size := e; omega)
      replace K := K.mv (Mv.setCell w13 ⟨w1.heap.size, 8, none⟩ (.int .i64 t13n)) (by show ¬ w.heap.size = w1.heap.size; omega)
      replace M := M.over (q := w1.heap.size) (by omega) 8 (.int .i64 t13n)
      clear E H
      have E := E0
      have H := H0
      clear E0 H0
      have C := Lib.hid (N14.out _ H)
      clear H
      go_wp2_with fail
      refine (C.out).mono ?_
      rintro e w14 ⟨rfl, m, H⟩
      replace K := K.mv m (by omega)
      replace M := M.trans m (fun _ _ e => e)
      replace E := E.mv m (by omega)
      clear C m
      have C := Lib.hid (N15.out _ H)
      clear H
      go_wp2_with fail
      refine (C.out).mono ?_
      rintro e w15 ⟨rfl, m, H⟩
      replace K := K.mv m (by omega)
      replace M := M.trans m (fun _ _ e => e)
      replace E := E.mv m (by omega)
      clear C m
      have FE := E.eleven
      have E0 : Blk (w15.setCell ⟨w1.heap.size, 9, none⟩ (.int .i64 t15n)) w1.heap.size 31 #[.int .i64 t1n, .int .i64 sb, .string (T t4t), .int .i64 ty, .int .i64 ac, .bool mp, .bool st, .int .i64 0, .int .i64 t13n, .int .i64 t15n, .slice none 0 0] := E.set_ 9 (.int .i64 t15n)
      have H0 := H.mv (Mv.setCell w15 ⟨w1.heap.size, 9, none⟩ (.int .i64 t15n)) (fun q e => by have e' : q = w1.heap.size := e; omega)
      replace K := K.mv (Mv.setCell w15 ⟨w1.heap.size, 9, none⟩ (.int .i64 t15n)) (by show ¬ w.heap.size = w1.heap.size; omega)
      replace M := M.over (q := w1.heap.size) (by omega) 9 (.int .i64 t15n)
      clear E H
      have E := E0
      have H := H0
      clear E0 H0
      have C := Lib.hid (N16.out _ H)
      clear H
      go_wp2_with fail
      refine (C.out).mono ?_
      rintro e w16 ⟨rfl, m, H⟩
      replace K := K.mv m (by omega)
      replace M := M.trans m (fun _ _ e => e)
      replace E := E.mv m (by omega)
      clear C m
      have C := Lib.hid (N17.out _ H)
      clear H
      go_wp2_with fail
      refine (C.out).mono ?_
      rintro e w17 ⟨rfl, m, H⟩
      replace K := K.mv m (by omega)
      replace M := M.trans m (fun _ _ e => e)
      replace E := E.mv m (by omega)
      clear C m
      have C := Lib.hid (N18.out _ H)
      clear H
      go_wp2_with fail
      refine (C.out).mono ?_
      rintro e w18 ⟨rfl, m, H⟩
      replace K := K.mv m (by omega)
      replace M := M.trans m (fun _ _ e => e)
      replace E := E.mv m (by omega)
      clear C m
      have FE := E.eleven
      have FK := K.eleven
      have R := (K.store11 (.int .i64 t1n) (.int .i64 sb) (.string (T t4t)) (.int .i64 ty) (.int .i64 ac) (.bool mp) (.bool st) (.int .i64 0) (.int .i64 t13n) (.int .i64 t15n) (.slice none 0 0)).eleven
      have M2 := Lib.hid ((((((((((((M.over (q := w.heap.size) (Nat.le_refl _) 0 (.int .i64 t1n)).over (q := w.heap.size) (Nat.le_refl _) 1 (.int .i64 sb)).over (q := w.heap.size) (Nat.le_refl _) 2 (.string (T t4t))).over (q := w.heap.size) (Nat.le_refl _) 3 (.int .i64 ty)).over (q := w.heap.size) (Nat.le_refl _) 4 (.int .i64 ac)).over (q := w.heap.size) (Nat.le_refl _) 5 (.bool mp)).over (q := w.heap.size) (Nat.le_refl _) 6 (.bool st)).over (q := w.heap.size) (Nat.le_refl _) 7 (.int .i64 0)).over (q := w.heap.size) (Nat.le_refl _) 8 (.int .i64 t13n)).over (q := w.heap.size) (Nat.le_refl _) 9 (.int .i64 t15n)).over (q := w.heap.size) (Nat.le_refl _) 10 (.slice none 0 0)))
      have H2 := Lib.hid ((((((((((((H.mv (Mv.setCell _ ⟨w.heap.size, 0, none⟩ (.int .i64 t1n)) (fun q e => by have e' : q = w.heap.size := e; omega)).mv (Mv.setCell _ ⟨w.heap.size, 1, none⟩ (.int .i64 sb)) (fun q e => by have e' : q = w.heap.size := e; omega)).mv (Mv.setCell _ ⟨w.heap.size, 2, none⟩ (.string (T t4t))) (fun q e => by have e' : q = w.heap.size := e; omega)).mv (Mv.setCell _ ⟨w.heap.size, 3, none⟩ (.int .i64 ty)) (fun q e => by have e' : q = w.heap.size := e; omega)).mv (Mv.setCell _ ⟨w.heap.size, 4, none⟩ (.int .i64 ac)) (fun q e => by have e' : q = w.heap.size := e; omega)).mv (Mv.setCell _ ⟨w.heap.size, 5, none⟩ (.bool mp)) (fun q e => by have e' : q = w.heap.size := e; omega)).mv (Mv.setCell _ ⟨w.heap.size, 6, none⟩ (.bool st)) (fun q e => by have e' : q = w.heap.size := e; omega)).mv (Mv.setCell _ ⟨w.heap.size, 7, none⟩ (.int .i64 0)) (fun q e => by have e' : q = w.heap.size := e; omega)).mv (Mv.setCell _ ⟨w.heap.size, 8, none⟩ (.int .i64 t13n)) (fun q e => by have e' : q = w.heap.size := e; omega)).mv (Mv.setCell _ ⟨w.heap.size, 9, none⟩ (.int .i64 t15n)) (fun q e => by have e' : q = w.heap.size := e; omega)).mv (Mv.setCell _ ⟨w.heap.size, 10, none⟩ (.slice none 0 0)) (fun q e => by have e' : q = w.heap.size := e; omega)))
      clear H M E K
      go_wp2_with fail
      exact bodyPost_ret (v := .tuple #[.agg #[.int .i64 t1n, .int .i64 sb, .string (T t4t), .int .i64 ty, .int .i64 ac, .bool mp, .bool st, .int .i64 0, .int .i64 t13n, .int .i64 t15n, .slice none 0 0], .string (T t17t)]) (by simp [results, Tryz.results18, go_sem, R]) rfl ⟨rfl, M2.out, H2.out⟩
end
end Go.Proofs.YtmolmpgampmolaaGreat
