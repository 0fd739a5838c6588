/-
  Texts joined: EdsREnt.
  Conditions: none.
-/
import Derived.Test.YtmolmpgampmolaaGreatJ26
/-
  Walk: entry of the reference of layer 17 (printed by wip/gened3.py).
  Conditions: none.
-/
namespace Go.Proofs.YtmolmpgampmolaaGreat.Ed
set_option linter.unusedVariables false
set_option linter.unusedSimpArgs false
open Lx Ent
theorem lim_no {t : Int} (h : numB t = false) : (Ty.limS t).1 = 0 ∧ (Ty.limS t).2.1 = 0 := by
  have hb : ¬ 0 < (Ty.kd t).bits := fun hb => by rw [(bits_num' _).2 hb] at h; cases h
  unfold Ty.limS
  rw [if_pos (by omega)]
  exact ⟨rfl, rfl⟩
theorem rent_no {ts : List Tk} {s : R} (hn : numB (headS ts s).ty = false) : entE ts s = { headE ts s with map := isS ts (accR ts s) 1 [109, 97, 112], store := isS ts (takeS ts (accR ts s) 1 [109, 97, 112]) 1 [115, 116, 111, 114, 101] } ∧ entV ts s = (needT ts (needR ts (takeS ts (takeS ts (accR ts s) 1 [109, 97, 112]) 1 [115, 116, 111, 114, 101]) 5 [61]) 4).text ∧ entR ts s = needR ts (needR ts (needR ts (takeS ts (takeS ts (accR ts s) 1 [109, 97, 112]) 1 [115, 116, 111, 114, 101]) 5 [61]) 4 []) 5 [59] := by
  unfold entE entV entR entK limR inB stoT headE
  simp only [hn, Bool.false_and, Bool.false_eq_true, if_false]
  rw [(lim_no hn).1, (lim_no hn).2]
  exact ⟨rfl, rfl, rfl⟩
theorem rent_num {ts : List Tk} {s : R} (hn : numB (headS ts s).ty = true) (hi : isS ts (takeS ts (takeS ts (accR ts s) 1 [109, 97, 112]) 1 [115, 116, 111, 114, 101]) 1 [105, 110] = false) : entE ts s = { headE ts s with map := isS ts (accR ts s) 1 [109, 97, 112], store := isS ts (takeS ts (accR ts s) 1 [109, 97, 112]) 1 [115, 116, 111, 114, 101], low := (Ty.limS (headS ts s).ty).1, high := (Ty.limS (headS ts s).ty).2.1 } ∧ entV ts s = (needT ts (needR ts (takeS ts (takeS ts (accR ts s) 1 [109, 97, 112]) 1 [115, 116, 111, 114, 101]) 5 [61]) 2).text ∧ entR ts s = needR ts (needR ts (needR ts (takeS ts (takeS ts (accR ts s) 1 [109, 97, 112]) 1 [115, 116, 111, 114, 101]) 5 [61]) 2 []) 5 [59] := by
  have hi2 : isS ts (stoR ts s) 1 [105, 110] = false := hi
  unfold entE entV entR entK limR inB stoT headE
  simp only [hn, hi2, Bool.true_and, Bool.false_eq_true, if_false, if_true]
  exact ⟨rfl, rfl, rfl⟩
theorem rent_rng {ts : List Tk} {s : R} (hn : numB (headS ts s).ty = true) (hi : isS ts (takeS ts (takeS ts (accR ts s) 1 [109, 97, 112]) 1 [115, 116, 111, 114, 101]) 1 [105, 110] = true) : entE ts s = { headE ts s with map := isS ts (accR ts s) 1 [109, 97, 112], store := isS ts (takeS ts (accR ts s) 1 [109, 97, 112]) 1 [115, 116, 111, 114, 101], low := loT ts (stepS (takeS ts (takeS ts (accR ts s) 1 [109, 97, 112]) 1 [115, 116, 111, 114, 101])), high := hiT ts (stepS (takeS ts (takeS ts (accR ts s) 1 [109, 97, 112]) 1 [115, 116, 111, 114, 101])) } ∧ entV ts s = (needT ts (needR ts (rngR ts (stepS (takeS ts (takeS ts (accR ts s) 1 [109, 97, 112]) 1 [115, 116, 111, 114, 101]))) 5 [61]) 2).text ∧ entR ts s = needR ts (needR ts (needR ts (rngR ts (stepS (takeS ts (takeS ts (accR ts s) 1 [109, 97, 112]) 1 [115, 116, 111, 114, 101]))) 5 [61]) 2 []) 5 [59] := by
  have hi2 : isS ts (stoR ts s) 1 [105, 110] = true := hi
  unfold entE entV entR entK limR inB stoT headE
  simp only [hn, hi2, Bool.true_and, if_true]
  exact ⟨rfl, rfl, rfl⟩
theorem head_ty {ts : List Tk} {s : R} : (headE ts s).type = (headS ts s).ty ∧ (headE ts s).map = false ∧ (headE ts s).store = false ∧ (headE ts s).low = 0 ∧ (headE ts s).high = 0 ∧ (headE ts s).dflt = [] := ⟨rfl, rfl, rfl, rfl, rfl, rfl⟩
end Go.Proofs.YtmolmpgampmolaaGreat.Ed
namespace Go.Proofs.YtmolmpgampmolaaGreat
set_option linter.unusedVariables false
set_option linter.unusedSimpArgs false
open Go.RowKit Go.Sort
section
variable {w : World} {g : Nat} {A : Option Addr} {n c : Nat} {ts : List Lx.Tk} {s : Ed.R}
set_option maxRecDepth 100000 in
set_option maxHeartbeats 16000000 in
theorem rentry_any (h : RdR w g A n c ts s) (hkm : ∀ t ∈ ts, t.kind ≠ -1) : Calls Tryz.prog 21 #[.pointer (some ⟨g, 0, none⟩)] w fun e w' => e = .returned (.tuple #[enV (Ed.entE ts s) none 0 0, .string (T (Ed.entV ts s))]) ∧ Mv (fun q => q = g) w w' ∧ RdR w' g A n c ts (Ed.entR ts s) := by
  have hgl := h.blk.lt
  have b0 := alloc_one w (.cells #[.int .i64 0, .int .i64 0, .string ⟨#[]⟩, .int .i64 0, .int .i64 0, .bool false, .bool false, .int .i64 0, .int .i64 0, .int .i64 0, .slice none 0 0] 31)
  have K := Blk.new w 31 #[.int .i64 0, .int .i64 0, .string ⟨#[]⟩, .int .i64 0, .int .i64 0, .bool false, .bool false, .int .i64 0, .int .i64 0, .int .i64 0, .slice none 0 0]
  have M := Mv.of_new b0 (fun q => q = g)
  have H := h.below b0
  have hz0 : w.heap.size < (w.alloc (.cells #[.int .i64 0, .int .i64 0, .string ⟨#[]⟩, .int .i64 0, .int .i64 0, .bool false, .bool false, .int .i64 0, .int .i64 0, .int .i64 0, .slice none 0 0] 31)).heap.size := K.lt
  clear h b0
  have N1 := fun (w : World) (H : RdR w g A n c ts s) => rhead_any H hkm
  obtain ⟨hty, hmp, hst, hlo, hhi, hdf⟩ := Ed.head_ty (ts := ts) (s := s)
  have RNO := Ed.rent_no (ts := ts) (s := s)
  have RNU := Ed.rent_num (ts := ts) (s := s)
  have RRG := Ed.rent_rng (ts := ts) (s := s)
  rw [← hty] at RNO RNU RRG
  generalize Ed.headE ts s = he at *
  obtain ⟨ix, sb, nm, ty, ac, mp0, st0, mx, lo0, hi0, df0⟩ := he
  dsimp only at hty hmp hst hlo hhi hdf RNO RNU RRG
  subst hmp hst hlo hhi hdf
  unfold enV at N1 ⊢
  dsimp only at N1
  generalize Ed.accR ts s = s9 at *
  have N2 := fun (w : World) (H : RdR w g A n c ts s9) => rtake_any H 1 [109, 97, 112]
  generalize Ed.isS ts s9 1 [109, 97, 112] = mp at *
  generalize Ed.takeS ts s9 1 [109, 97, 112] = s10 at *
  have N3 := fun (w : World) (H : RdR w g A n c ts s10) => rtake_any H 1 [115, 116, 111, 114, 101]
  generalize Ed.isS ts s10 1 [115, 116, 111, 114, 101] = st at *
  generalize Ed.takeS ts s10 1 [115, 116, 111, 114, 101] = s11 at *
  have LM := fun w => RLimits_any ty w
  have hnl : Ed.numB ty = (Ty.limS ty).2.2 := rfl
  generalize Ty.limS ty = lm at *
  obtain ⟨lo, hi, nb⟩ := lm
  dsimp only at LM RNO RNU RRG hnl
  rw [hnl] at RNO RNU RRG
  clear hty hnl hkm
  cases nb
  · skip
    obtain ⟨q1, q2, q3⟩ := RNO rfl
    rw [q1, q2, q3]
    clear q1 q2 q3 RNO RNU RRG
    dsimp only
    have N16 := fun (w : World) (H : RdR w g A n c ts s11) => h_mark H [61]
    generalize Ed.needR ts s11 5 [61] = s16 at *
    have N17 := fun (w : World) (H : RdR w g A n c ts s16) => rneed_any H 4 []
    rw [needX_nil] at N17
    unfold tkW at N17
    generalize Ed.needT ts s16 4 = t17 at *
    generalize Ed.needR ts s16 4 [] = s17 at *
    obtain ⟨t17k, t17t, t17n, t17p⟩ := t17
    dsimp only at N17 ⊢
    have fd17 := fld1 t17k t17t t17n t17p
    have N18 := fun (w : World) (H : RdR w g A n c ts s17) => h_mark H [59]
    generalize Ed.needR ts s17 5 [59] = s18 at *
    replace N1 := Lib.hid N1
    replace N2 := Lib.hid N2
    replace N3 := Lib.hid N3
    replace N16 := Lib.hid N16
    replace N17 := Lib.hid N17
    replace N18 := Lib.hid N18
    replace LM := Lib.hid LM
    go_enter Tryz.func21, Tryz.ntmps21
    have C := Lib.hid (N1.out _ H)
    clear H
    go_wp2_with fail
    refine (C.out).mono ?_
    rintro e w1 ⟨rfl, m, H⟩
    replace K := K.mv m (by omega)
    replace M := M.trans m (fun _ _ e => e)
    have hz1 := m.size
    clear C m
    have be := alloc_one w1 (.cells #[.int .i64 ix, .int .i64 sb, .string (T nm), .int .i64 ty, .int .i64 ac, .bool false, .bool false, .int .i64 mx, .int .i64 0, .int .i64 0, .slice none 0 0] 31)
    have E := Blk.new w1 31 #[.int .i64 ix, .int .i64 sb, .string (T nm), .int .i64 ty, .int .i64 ac, .bool false, .bool false, .int .i64 mx, .int .i64 0, .int .i64 0, .slice none 0 0]
    replace K := K.later be
    replace M := M.trans (Mv.of_new be (fun q => q = g)) (fun _ _ e => e)
    replace H := H.below be
    have hge0 : w.heap.size < w1.heap.size := by omega
    clear be
    have C := Lib.hid (N2.out _ H)
    clear H
    go_wp2_with fail
    refine (C.out).mono ?_
    rintro e w2 ⟨rfl, m, H⟩
    replace K := K.mv m (by omega)
    replace M := M.trans m (fun _ _ e => e)
    replace E := E.mv m (by omega)
    clear C m
    have FE := E.eleven
    have E0 : Blk (w2.setCell ⟨w1.heap.size, 5, none⟩ (.bool mp)) w1.heap.size 31 #[.int .i64 ix, .int .i64 sb, .string (T nm), .int .i64 ty, .int .i64 ac, .bool mp, .bool false, .int .i64 mx, .int .i64 0, .int .i64 0, .slice none 0 0] := E.set_ 5 (.bool mp)
    have H0 := H.mv (Mv.setCell w2 ⟨w1.heap.size, 5, none⟩ (.bool mp)) (fun q e => by have e' : q = w1.heap.size := e; omega)
    replace K := K.mv (Mv.setCell w2 ⟨w1.heap.size, 5, none⟩ (.bool mp)) (by show ¬ w.heap.size = w1.heap.size; omega)
    replace M := M.over (q := w1.heap.size) (by omega) 5 (.bool mp)
    clear E H
    have E := E0
    have H := H0
    clear E0 H0
    have C := Lib.hid (N3.out _ H)
    clear H
    go_wp2_with fail
    refine (C.out).mono ?_
    rintro e w3 ⟨rfl, m, H⟩
    replace K := K.mv m (by omega)
    replace M := M.trans m (fun _ _ e => e)
    replace E := E.mv m (by omega)
    clear C m
    have FE := E.eleven
    have E0 : Blk (w3.setCell ⟨w1.heap.size, 6, none⟩ (.bool st)) w1.heap.size 31 #[.int .i64 ix, .int .i64 sb, .string (T nm), .int .i64 ty, .int .i64 ac, .bool mp, .bool st, .int .i64 mx, .int .i64 0, .int .i64 0, .slice none 0 0] := E.set_ 6 (.bool st)
    have H0 := H.mv (Mv.setCell w3 ⟨w1.heap.size, 6, none⟩ (.bool st)) (fun q e => by have e' : q = w1.heap.size := e; omega)
    replace K := K.mv (Mv.setCell w3 ⟨w1.heap.size, 6, none⟩ (.bool st)) (by show ¬ w.heap.size = w1.heap.size; omega)
    replace M := M.over (q := w1.heap.size) (by omega) 6 (.bool st)
    clear E H
    have E := E0
    have H := H0
    clear E0 H0
    have FE := E.eleven
    go_wp2_with fail
    refine (LM.out _).mono ?_
    rintro e wl ⟨rfl, hwl⟩
    subst hwl
    clear FE LM
    have C := Lib.hid (N16.out _ H)
    clear H
    go_wp2_with fail
    refine (C.out).mono ?_
    rintro e w16 ⟨⟨v16, rfl⟩, m, H⟩
    replace K := K.mv m (by omega)
    replace M := M.trans m (fun _ _ e => e)
    replace E := E.mv m (by omega)
    clear C m
    have C := Lib.hid (N17.out _ H)
    clear H
    go_wp2_with fail
    refine (C.out).mono ?_
    rintro e w17 ⟨rfl, m, H⟩
    replace K := K.mv m (by omega)
    replace M := M.trans m (fun _ _ e => e)
    replace E := E.mv m (by omega)
    clear C m
    have C := Lib.hid (N18.out _ H)
    clear H
    go_wp2_with fail
    refine (C.out).mono ?_
    rintro e w18 ⟨⟨v18, rfl⟩, m, H⟩
    replace K := K.mv m (by omega)
    replace M := M.trans m (fun _ _ e => e)
    replace E := E.mv m (by omega)
    clear C m
    have FE := E.eleven
    have FK := K.eleven
    have R := (K.store11 (.int .i64 ix) (.int .i64 sb) (.string (T nm)) (.int .i64 ty) (.int .i64 ac) (.bool mp) (.bool st) (.int .i64 mx) (.int .i64 0) (.int .i64 0) (.slice none 0 0)).eleven
    have M2 := Lib.hid ((((((((((((M.over (q := w.heap.size) (Nat.le_refl _) 0 (.int .i64 ix)).over (q := w.heap.size) (Nat.le_refl _) 1 (.int .i64 sb)).over (q := w.heap.size) (Nat.le_refl _) 2 (.string (T nm))).over (q := w.heap.size) (Nat.le_refl _) 3 (.int .i64 ty)).over (q := w.heap.size) (Nat.le_refl _) 4 (.int .i64 ac)).over (q := w.heap.size) (Nat.le_refl _) 5 (.bool mp)).over (q := w.heap.size) (Nat.le_refl _) 6 (.bool st)).over (q := w.heap.size) (Nat.le_refl _) 7 (.int .i64 mx)).over (q := w.heap.size) (Nat.le_refl _) 8 (.int .i64 0)).over (q := w.heap.size) (Nat.le_refl _) 9 (.int .i64 0)).over (q := w.heap.size) (Nat.le_refl _) 10 (.slice none 0 0)))
    have H2 := Lib.hid ((((((((((((H.mv (Mv.setCell _ ⟨w.heap.size, 0, none⟩ (.int .i64 ix)) (fun q e => by have e' : q = w.heap.size := e; omega)).mv (Mv.setCell _ ⟨w.heap.size, 1, none⟩ (.int .i64 sb)) (fun q e => by have e' : q = w.heap.size := e; omega)).mv (Mv.setCell _ ⟨w.heap.size, 2, none⟩ (.string (T nm))) (fun q e => by have e' : q = w.heap.size := e; omega)).mv (Mv.setCell _ ⟨w.heap.size, 3, none⟩ (.int .i64 ty)) (fun q e => by have e' : q = w.heap.size := e; omega)).mv (Mv.setCell _ ⟨w.heap.size, 4, none⟩ (.int .i64 ac)) (fun q e => by have e' : q = w.heap.size := e; omega)).mv (Mv.setCell _ ⟨w.heap.size, 5, none⟩ (.bool mp)) (fun q e => by have e' : q = w.heap.size := e; omega)).mv (Mv.setCell _ ⟨w.heap.size, 6, none⟩ (.bool st)) (fun q e => by have e' : q = w.heap.size := e; omega)).mv (Mv.setCell _ ⟨w.heap.size, 7, none⟩ (.int .i64 mx)) (fun q e => by have e' : q = w.heap.size := e; omega)).mv (Mv.setCell _ ⟨w.heap.size, 8, none⟩ (.int .i64 0)) (fun q e => by have e' : q = w.heap.size := e; omega)).mv (Mv.setCell _ ⟨w.heap.size, 9, none⟩ (.int .i64 0)) (fun q e => by have e' : q = w.heap.size := e; omega)).mv (Mv.setCell _ ⟨w.heap.size, 10, none⟩ (.slice none 0 0)) (fun q e => by have e' : q = w.heap.size := e; omega)))
    clear H M E K
    go_wp2_with fail
    exact bodyPost_ret (v := .tuple #[.agg #[.int .i64 ix, .int .i64 sb, .string (T nm), .int .i64 ty, .int .i64 ac, .bool mp, .bool st, .int .i64 mx, .int .i64 0, .int .i64 0, .slice none 0 0], .string (T t17t)]) (by simp [results, Tryz.results21, go_sem, R]) rfl ⟨rfl, M2.out, H2.out⟩
  · cases hin : Ed.isS ts s11 1 [105, 110]
    · skip
      obtain ⟨q1, q2, q3⟩ := RNU rfl hin
      rw [q1, q2, q3]
      clear q1 q2 q3 RNO RNU RRG
      dsimp only
      have N12 := fun (w : World) (H : RdR w g A n c ts s11) => rtake_any H 1 [105, 110]
      have hty := take_no hin
      simp only [hin, hty] at N12
      clear hin hty
      have N16 := fun (w : World) (H : RdR w g A n c ts s11) => h_mark H [61]
      generalize Ed.needR ts s11 5 [61] = s16 at *
      have N17 := fun (w : World) (H : RdR w g A n c ts s16) => rneed_any H 2 []
      rw [needX_nil] at N17
      unfold tkW at N17
      generalize Ed.needT ts s16 2 = t17 at *
      generalize Ed.needR ts s16 2 [] = s17 at *
      obtain ⟨t17k, t17t, t17n, t17p⟩ := t17
      dsimp only at N17 ⊢
      have fd17 := fld1 t17k t17t t17n t17p
      have N18 := fun (w : World) (H : RdR w g A n c ts s17) => h_mark H [59]
      generalize Ed.needR ts s17 5 [59] = s18 at *
      replace N1 := Lib.hid N1
      replace N2 := Lib.hid N2
      replace N3 := Lib.hid N3
      replace N12 := Lib.hid N12
      replace N16 := Lib.hid N16
      replace N17 := Lib.hid N17
      replace N18 := Lib.hid N18
      replace LM := Lib.hid LM
      go_enter Tryz.func21, Tryz.ntmps21
      have C := Lib.hid (N1.out _ H)
      clear H
      go_wp2_with fail
      refine (C.out).mono ?_
      rintro e w1 ⟨rfl, m, H⟩
      replace K := K.mv m (by omega)
      replace M := M.trans m (fun _ _ e => e)
      have hz1 := m.size
      clear C m
      have be := alloc_one w1 (.cells #[.int .i64 ix, .int .i64 sb, .string (T nm), .int .i64 ty, .int .i64 ac, .bool false, .bool false, .int .i64 mx, .int .i64 0, .int .i64 0, .slice none 0 0] 31)
      have E := Blk.new w1 31 #[.int .i64 ix, .int .i64 sb, .string (T nm), .int .i64 ty, .int .i64 ac, .bool false, .bool false, .int .i64 mx, .int .i64 0, .int .i64 0, .slice none 0 0]
      replace K := K.later be
      replace M := M.trans (Mv.of_new be (fun q => q = g)) (fun _ _ e => e)
      replace H := H.below be
      have hge0 : w.heap.size < w1.heap.size := by omega
      clear be
      have C := Lib.hid (N2.out _ H)
      clear H
      go_wp2_with fail
      refine (C.out).mono ?_
      rintro e w2 ⟨rfl, m, H⟩
      replace K := K.mv m (by omega)
      replace M := M.trans m (fun _ _ e => e)
      replace E := E.mv m (by omega)
      clear C m
      have FE := E.eleven
      have E0 : Blk (w2.setCell ⟨w1.heap.size, 5, none⟩ (.bool mp)) w1.heap.size 31 #[.int .i64 ix, .int .i64 sb, .string (T nm), .int .i64 ty, .int .i64 ac, .bool mp, .bool false, .int .i64 mx, .int .i64 0, .int .i64 0, .slice none 0 0] := E.set_ 5 (.bool mp)
      have H0 := H.mv (Mv.setCell w2 ⟨w1.heap.size, 5, none⟩ (.bool mp)) (fun q e => by have e' : q = w1.heap.size := e; omega)
      replace K := K.mv (Mv.setCell w2 ⟨w1.heap.size, 5, none⟩ (.bool mp)) (by show ¬ w.heap.size = w1.heap.size; omega)
      replace M := M.over (q := w1.heap.size) (by omega) 5 (.bool mp)
      clear E H
      have E := E0
      have H := H0
      clear E0 H0
      have C := Lib.hid (N3.out _ H)
      clear H
      go_wp2_with fail
      refine (C.out).mono ?_
      rintro e w3 ⟨rfl, m, H⟩
      replace K := K.mv m (by omega)
      replace M := M.trans m (fun _ _ e => e)
      replace E := E.mv m (by omega)
      clear C m
      have FE := E.eleven
      have E0 : Blk (w3.setCell ⟨w1.heap.size, 6, none⟩ (.bool st)) w1.heap.size 31 #[.int .i64 ix, .int .i64 sb, .string (T nm), .int .i64 ty, .int .i64 ac, .bool mp, .bool st, .int .i64 mx, .int .i64 0, .int .i64 0, .slice none 0 0] := E.set_ 6 (.bool st)
      have H0 := H.mv (Mv.setCell w3 ⟨w1.heap.size, 6, none⟩ (.bool st)) (fun q e => by have e' : q = w1.heap.size := e; omega)
      replace K := K.mv (Mv.setCell w3 ⟨w1.heap.size, 6, none⟩ (.bool st)) (by show ¬ w.heap.size = w1.heap.size; omega)
      replace M := M.over (q := w1.heap.size) (by omega) 6 (.bool st)
      clear E H
      have E := E0
      have H := H0
      clear E0 H0
      have FE := E.eleven
      go_wp2_with fail
      refine (LM.out _).mono ?_
      rintro e wl ⟨rfl, hwl⟩
      subst hwl
      clear FE LM
      have FE := E.eleven
      have E0 : Blk ((w3.setCell ⟨w1.heap.size, 6, none⟩ (.bool st)).setCell ⟨w1.heap.size, 8, none⟩ (.int .i64 lo)) w1.heap.size 31 #[.int .i64 ix, .int .i64 sb, .string (T nm), .int .i64 ty, .int .i64 ac, .bool mp, .bool st, .int .i64 mx, .int .i64 lo, .int .i64 0, .slice none 0 0] := E.set_ 8 (.int .i64 lo)
      have H0 := H.mv (Mv.setCell (w3.setCell ⟨w1.heap.size, 6, none⟩ (.bool st)) ⟨w1.heap.size, 8, none⟩ (.int .i64 lo)) (fun q e => by have e' : q = w1.heap.size := e; omega)
      replace K := K.mv (Mv.setCell (w3.setCell ⟨w1.heap.size, 6, none⟩ (.bool st)) ⟨w1.heap.size, 8, none⟩ (.int .i64 lo)) (by show ¬ w.heap.size = w1.heap.size; omega)
      replace M := M.over (q := w1.heap.size) (by omega) 8 (.int .i64 lo)
      have FE0 := E0.eleven
      have E1 : Blk (((w3.setCell ⟨w1.heap.size, 6, none⟩ (.bool st)).setCell ⟨w1.heap.size, 8, none⟩ (.int .i64 lo)).setCell ⟨w1.heap.size, 9, none⟩ (.int .i64 hi)) w1.heap.size 31 #[.int .i64 ix, .int .i64 sb, .string (T nm), .int .i64 ty, .int .i64 ac, .bool mp, .bool st, .int .i64 mx, .int .i64 lo, .int .i64 hi, .slice none 0 0] := E0.set_ 9 (.int .i64 hi)
      have H1 := H0.mv (Mv.setCell ((w3.setCell ⟨w1.heap.size, 6, none⟩ (.bool st)).setCell ⟨w1.heap.size, 8, none⟩ (.int .i64 lo)) ⟨w1.heap.size, 9, none⟩ (.int .i64 hi)) (fun q e => by have e' : q = w1.heap.size := e; omega)
      replace K := K.mv (Mv.setCell ((w3.setCell ⟨w1.heap.size, 6, none⟩ (.bool st)).setCell ⟨w1.heap.size, 8, none⟩ (.int .i64 lo)) ⟨w1.heap.size, 9, none⟩ (.int .i64 hi)) (by show ¬ w.heap.size = w1.heap.size; omega)
      replace M := M.over (q := w1.heap.size) (by omega) 9 (.int .i64 hi)
      clear E H E0 H0
      have E := E1
      have H := H1
      clear E1 H1
      have C := Lib.hid (N12.out _ H)
      clear H
      go_wp2_with fail
      refine (C.out).mono ?_
      rintro e w12 ⟨rfl, m, H⟩
      replace K := K.mv m (by omega)
      replace M := M.trans m (fun _ _ e => e)
      replace E := E.mv m (by omega)
      clear C m
      have C := Lib.hid (N16.out _ H)
      clear H
      go_wp2_with fail
      refine (C.out).mono ?_
      rintro e w16 ⟨⟨v16, rfl⟩, m, H⟩
      replace K := K.mv m (by omega)
      replace M := M.trans m (fun _ _ e => e)
      replace E := E.mv m (by omega)
      clear C m
      have C := Lib.hid (N17.out _ H)
      clear H
      go_wp2_with fail
      refine (C.out).mono ?_
      rintro e w17 ⟨rfl, m, H⟩
      replace K := K.mv m (by omega)
      replace M := M.trans m (fun _ _ e => e)
      replace E := E.mv m (by omega)
      clear C m
      have C := Lib.hid (N18.out _ H)
      clear H
      go_wp2_with fail
      refine (C.out).mono ?_
      rintro e w18 ⟨⟨v18, rfl⟩, m, H⟩
      replace K := K.mv m (by omega)
      replace M := M.trans m (fun _ _ e => e)
      replace E := E.mv m (by omega)
      clear C m
      have FE := E.eleven
      have FK := K.eleven
      have R := (K.store11 (.int .i64 ix) (.int .i64 sb) (.string (T nm)) (.int .i64 ty) (.int .i64 ac) (.bool mp) (.bool st) (.int .i64 mx) (.int .i64 lo) (.int .i64 hi) (.slice none 0 0)).eleven
      have M2 := Lib.hid ((((((((((((M.over (q := w.heap.size) (Nat.le_refl _) 0 (.int .i64 ix)).over (q := w.heap.size) (Nat.le_refl _) 1 (.int .i64 sb)).over (q := w.heap.size) (Nat.le_refl _) 2 (.string (T nm))).over (q := w.heap.size) (Nat.le_refl _) 3 (.int .i64 ty)).over (q := w.heap.size) (Nat.le_refl _) 4 (.int .i64 ac)).over (q := w.heap.size) (Nat.le_refl _) 5 (.bool mp)).over (q := w.heap.size) (Nat.le_refl _) 6 (.bool st)).over (q := w.heap.size) (Nat.le_refl _) 7 (.int .i64 mx)).over (q := w.heap.size) (Nat.le_refl _) 8 (.int .i64 lo)).over (q := w.heap.size) (Nat.le_refl _) 9 (.int .i64 hi)).over (q := w.heap.size) (Nat.le_refl _) 10 (.slice none 0 0)))
      have H2 := Lib.hid ((((((((((((H.mv (Mv.setCell _ ⟨w.heap.size, 0, none⟩ (.int .i64 ix)) (fun q e => by have e' : q = w.heap.size := e; omega)).mv (Mv.setCell _ ⟨w.heap.size, 1, none⟩ (.int .i64 sb)) (fun q e => by have e' : q = w.heap.size := e; omega)).mv (Mv.setCell _ ⟨w.heap.size, 2, none⟩ (.string (T nm))) (fun q e => by have e' : q = w.heap.size := e; omega)).mv (Mv.setCell _ ⟨w.heap.size, 3, none⟩ (.int .i64 ty)) (fun q e => by have e' : q = w.heap.size := e; omega)).mv (Mv.setCell _ ⟨w.heap.size, 4, none⟩ (.int .i64 ac)) (fun q e => by have e' : q = w.heap.size := e; omega)).mv (Mv.setCell _ ⟨w.heap.size, 5, none⟩ (.bool mp)) (fun q e => by have e' : q = w.heap.size := e; omega)).mv (Mv.setCell _ ⟨w.heap.size, 6, none⟩ (.bool st)) (fun q e => by have e' : q = w.heap.size := e; omega)).mv (Mv.setCell _ ⟨w.heap.size, 7, none⟩ (.int .i64 mx)) (fun q e => by have e' : q = w.heap.size := e; omega)).mv (Mv.setCell _ ⟨w.heap.size, 8, none⟩ (.int .i64 lo)) (fun q e => by have e' : q = w.heap.size := e; omega)).mv (Mv.setCell _ ⟨w.heap.size, 9, none⟩ (.int .i64 hi)) (fun q e => by have e' : q = w.heap.size := e; omega)).mv (Mv.setCell _ ⟨w.heap.size, 10, none⟩ (.slice none 0 0)) (fun q e => by have e' : q = w.heap.size := e; omega)))
      clear H M E K
      go_wp2_with fail
      exact bodyPost_ret (v := .tuple #[.agg #[.int .i64 ix, .int .i64 sb, .string (T nm), .int .i64 ty, .int .i64 ac, .bool mp, .bool st, .int .i64 mx, .int .i64 lo, .int .i64 hi, .slice none 0 0], .string (T t17t)]) (by simp [results, Tryz.results21, go_sem, R]) rfl ⟨rfl, M2.out, H2.out⟩
    · skip
      obtain ⟨q1, q2, q3⟩ := RRG rfl hin
      rw [q1, q2, q3]
      clear q1 q2 q3 RNO RNU RRG
      unfold Ed.loT Ed.hiT Ed.rngR
      dsimp only
      have N12 := fun (w : World) (H : RdR w g A n c ts s11) => rtake_any H 1 [105, 110]
      have hty := take_yes hin
      simp only [hin, hty] at N12
      clear hin hty
      generalize Ed.stepS s11 = s12 at *
      have N13 := fun (w : World) (H : RdR w g A n c ts s12) => rneed_any H 2 []
      rw [needX_nil] at N13
      unfold tkW at N13
      generalize Ed.needT ts s12 2 = t13 at *
      generalize Ed.needR ts s12 2 [] = s13 at *
      obtain ⟨t13k, t13t, t13n, t13p⟩ := t13
      dsimp only at N13 ⊢
      have fd13 := fld2 t13k t13t t13n t13p
      have N14 := fun (w : World) (H : RdR w g A n c ts s13) => h_mark H [46, 46]
      generalize Ed.needR ts s13 5 [46, 46] = s14 at *
      have N15 := fun (w : World) (H : RdR w g A n c ts s14) => rneed_any H 2 []
      rw [needX_nil] at N15
      unfold tkW at N15
      generalize Ed.needT ts s14 2 = t15 at *
      generalize Ed.needR ts s14 2 [] = s15 at *
      obtain ⟨t15k, t15t, t15n, t15p⟩ := t15
      dsimp only at N15 ⊢
      have fd15 := fld2 t15k t15t t15n t15p
      have N16 := fun (w : World) (H : RdR w g A n c ts s15) => h_mark H [61]
      generalize Ed.needR ts s15 5 [61] = s16 at *
      have N17 := fun (w : World) (H : RdR w g A n c ts s16) => rneed_any H 2 []
      rw [needX_nil] at N17
      unfold tkW at N17
      generalize Ed.needT ts s16 2 = t17 at *
      generalize Ed.needR ts s16 2 [] = s17 at *
      obtain ⟨t17k, t17t, t17n, t17p⟩ := t17
      dsimp only at N17 ⊢
      have fd17 := fld1 t17k t17t t17n t17p
      have N18 := fun (w : World) (H : RdR w g A n c ts s17) => h_mark H [59]
      generalize Ed.needR ts s17 5 [59] = s18 at *
      replace N1 := Lib.hid N1
      replace N2 := Lib.hid N2
      replace N3 := Lib.hid N3
      replace N12 := Lib.hid N12
      replace N13 := Lib.hid N13
      replace N14 := Lib.hid N14
      replace N15 := Lib.hid N15
      replace N16 := Lib.hid N16
      replace N17 := Lib.hid N17
      replace N18 := Lib.hid N18
      replace LM := Lib.hid LM
      go_enter Tryz.func21, Tryz.ntmps21
      have C := Lib.hid (N1.out _ H)
      clear H
      go_wp2_with fail
      refine (C.out).mono ?_
      rintro e w1 ⟨rfl, m, H⟩
      replace K := K.mv m (by omega)
      replace M := M.trans m (fun _ _ e => e)
      have hz1 := m.size
      clear C m
      have be := alloc_one w1 (.cells #[.int .i64 ix, .int .i64 sb, .string (T nm), .int .i64 ty, .int .i64 ac, .bool false, .bool false, .int .i64 mx, .int .i64 0, .int .i64 0, .slice none 0 0] 31)
      have E := Blk.new w1 31 #[.int .i64 ix, .int .i64 sb, .string (T nm), .int .i64 ty, .int .i64 ac, .bool false, .bool false, .int .i64 mx, .int .i64 0, .int .i64 0, .slice none 0 0]
      replace K := K.later be
      replace M := M.trans (Mv.of_new be (fun q => q = g)) (fun _ _ e => e)
      replace H := H.below be
      have hge0 : w.heap.size < w1.heap.size := by omega
      clear be
      have C := Lib.hid (N2.out _ H)
      clear H
      go_wp2_with fail
      refine (C.out).mono ?_
      rintro e w2 ⟨rfl, m, H⟩
      replace K := K.mv m (by omega)
      replace M := M.trans m (fun _ _ e => e)
      replace E := E.mv m (by omega)
      clear C m
      have FE := E.eleven
      have E0 : Blk (w2.setCell ⟨w1.heap.size, 5, none⟩ (.bool mp)) w1.heap.size 31 #[.int .i64 ix, .int .i64 sb, .string (T nm), .int .i64 ty, .int .i64 ac, .bool mp, .bool false, .int .i64 mx, .int .i64 0, .int .i64 0, .slice none 0 0] := E.set_ 5 (.bool mp)
      have H0 := H.mv (Mv.setCell w2 ⟨w1.heap.size, 5, none⟩ (.bool mp)) (fun q e => by have e' : q = w1.heap.size := e; omega)
      replace K := K.mv (Mv.setCell w2 ⟨w1.heap.size, 5, none⟩ (.bool mp)) (by show ¬ w.heap.size = w1.heap.size; omega)
      replace M := M.over (q := w1.heap.size) (by omega) 5 (.bool mp)
      clear E H
      have E := E0
      have H := H0
      clear E0 H0
      have C := Lib.hid (N3.out _ H)
      clear H
      go_wp2_with fail
      refine (C.out).mono ?_
      rintro e w3 ⟨rfl, m, H⟩
      replace K := K.mv m (by omega)
      replace M := M.trans m (fun _ _ e => e)
      replace E := E.mv m (by omega)
      clear C m
      have FE := E.eleven
      have E0 : Blk (w3.setCell ⟨w1.heap.size, 6, none⟩ (.bool st)) w1.heap.size 31 #[.int .i64 ix, .int .i64 sb, .string (T nm), .int .i64 ty, .int .i64 ac, .bool mp, .bool st, .int .i64 mx, .int .i64 0, .int .i64 0, .slice none 0 0] := E.set_ 6 (.bool st)
      have H0 := H.mv (Mv.setCell w3 ⟨w1.heap.size, 6, none⟩ (.bool st)) (fun q e => by have e' : q = w1.heap.size := e; omega)
      replace K := K.mv (Mv.setCell w3 ⟨w1.heap.size, 6, none⟩ (.bool st)) (by show ¬ w.heap.size = w1.heap.size; omega)
      replace M := M.over (q := w1.heap.size) (by omega) 6 (.bool st)
      clear E H
      have E := E0
      have H := H0
      clear E0 H0
      have FE := E.eleven
      go_wp2_with fail
      refine (LM.out _).mono ?_
      rintro e wl ⟨rfl, hwl⟩
      subst hwl
      clear FE LM
      have FE := E.eleven
      have E0 : Blk ((w3.setCell ⟨w1.heap.size, 6, none⟩ (.bool st)).setCell ⟨w1.heap.size, 8, none⟩ (.int .i64 lo)) w1.heap.size 31 #[.int .i64 ix, .int .i64 sb, .string (T nm), .int .i64 ty, .int .i64 ac, .bool mp, .bool st, .int .i64 mx, .int .i64 lo, .int .i64 0, .slice none 0 0] := E.set_ 8 (.int .i64 lo)
      have H0 := H.mv (Mv.setCell (w3.setCell ⟨w1.heap.size, 6, none⟩ (.bool st)) ⟨w1.heap.size, 8, none⟩ (.int .i64 lo)) (fun q e => by have e' : q = w1.heap.size := e; omega)
      replace K := K.mv (Mv.setCell (w3.setCell ⟨w1.heap.size, 6, none⟩ (.bool st)) ⟨w1.heap.size, 8, none⟩ (.int .i64 lo)) (by show ¬ w.heap.size = w1.heap.size; omega)
      replace M := M.over (q := w1.heap.size) (by omega) 8 (.int .i64 lo)
      have FE0 := E0.eleven
      have E1 : Blk (((w3.setCell ⟨w1.heap.size, 6, none⟩ (.bool st)).setCell ⟨w1.heap.size, 8, none⟩ (.int .i64 lo)).setCell ⟨w1.heap.size, 9, none⟩ (.int .i64 hi)) w1.heap.size 31 #[.int .i64 ix, .int .i64 sb, .string (T nm), .int .i64 ty, .int .i64 ac, .bool mp, .bool st, .int .i64 mx, .int .i64 lo, .int .i64 hi, .slice none 0 0] := E0.set_ 9 (.int .i64 hi)
      have H1 := H0.mv (Mv.setCell ((w3.setCell ⟨w1.heap.size, 6, none⟩ (.bool st)).setCell ⟨w1.heap.size, 8, none⟩ (.int .i64 lo)) ⟨w1.heap.size, 9, none⟩ (.int .i64 hi)) (fun q e => by have e' : q = w1.heap.size := e; omega)
      replace K := K.mv (Mv.setCell ((w3.setCell ⟨w1.heap.size, 6, none⟩ (.bool st)).setCell ⟨w1.heap.size, 8, none⟩ (.int .i64 lo)) ⟨w1.heap.size, 9, none⟩ (.int .i64 hi)) (by show ¬ w.heap.size = w1.heap.size; omega)
      replace M := M.over (q := w1.heap.size) (by omega) 9 (.int .i64 hi)
      clear E H E0 H0
      have E := E1
      have H := H1
      clear E1 H1
      have C := Lib.hid (N12.out _ H)
      clear H
      go_wp2_with fail
      refine (C.out).mono ?_
      rintro e w12 ⟨rfl, m, H⟩
      replace K := K.mv m (by omega)
      replace M := M.trans m (fun _ _ e => e)
      replace E := E.mv m (by omega)
      clear C m
      have C := Lib.hid (N13.out _ H)
      clear H
      go_wp2_with fail
      refine (C.out).mono ?_
      rintro e w13 ⟨rfl, m, H⟩
      replace K := K.mv m (by omega)
      replace M := M.trans m (fun _ _ e => e)
      replace E := E.mv m (by omega)
      clear C m
      have FE := E.eleven
      have E0 : Blk (w13.setCell ⟨w1.heap.size, 8, none⟩ (.int .i64 t13n)) w1.heap.size 31 #[.int .i64 ix, .int .i64 sb, .string (T nm), .int .i64 ty, .int .i64 ac, .bool mp, .bool st, .int .i64 mx, .int .i64 t13n, .int .i64 hi, .slice none 0 0] := E.set_ 8 (.int .i64 t13n)
      have H0 := H.mv (Mv.setCell w13 ⟨w1.heap.size, 8, none⟩ (.int .i64 t13n)) (fun q e => by have e' : q = w1.heap.size := e; omega)
      replace K := K.mv (Mv.setCell w13 ⟨w1.heap.size, 8, none⟩ (.int .i64 t13n)) (by show ¬ w.heap.size = w1.heap.size; omega)
      replace M := M.over (q := w1.heap.size) (by omega) 8 (.int .i64 t13n)
      clear E H
      have E := E0
      have H := H0
      clear E0 H0
      have C := Lib.hid (N14.out _ H)
      clear H
      go_wp2_with fail
      refine (C.out).mono ?_
      rintro e w14 ⟨⟨v14, rfl⟩, m, H⟩
      replace K := K.mv m (by omega)
      replace M := M.trans m (fun _ _ e => e)
      replace E := E.mv m (by omega)
      clear C m
      have C := Lib.hid (N15.out _ H)
      clear H
      go_wp2_with fail
      refine (C.out).mono ?_
      rintro e w15 ⟨rfl, m, H⟩
      replace K := K.mv m (by omega)
      replace M := M.trans m (fun _ _ e => e)
      replace E := E.mv m (by omega)
      clear C m
      have FE := E.eleven
      have E0 : Blk (w15.setCell ⟨w1.heap.size, 9, none⟩ (.int .i64 t15n)) w1.heap.size 31 #[.int .i64 ix, .int .i64 sb, .string (T nm), .int .i64 ty, .int .i64 ac, .bool mp, .bool st, .int .i64 mx, .int .i64 t13n, .int .i64 t15n, .slice none 0 0] := E.set_ 9 (.int .i64 t15n)
      have H0 := H.mv (Mv.setCell w15 ⟨w1.heap.size, 9, none⟩ (.int .i64 t15n)) (fun q e => by have e' : q = w1.heap.size := e; omega)
      replace K := K.mv (Mv.setCell w15 ⟨w1.heap.size, 9, none⟩ (.int .i64 t15n)) (by show ¬ w.heap.size = w1.heap.size; omega)
      replace M := M.over (q := w1.heap.size) (by omega) 9 (.int .i64 t15n)
      clear E H
      have E := E0
      have H := H0
      clear E0 H0
      have C := Lib.hid (N16.out _ H)
      clear H
      go_wp2_with fail
      refine (C.out).mono ?_
      rintro e w16 ⟨⟨v16, rfl⟩, m, H⟩
      replace K := K.mv m (by omega)
      replace M := M.trans m (fun _ _ e => e)
      replace E := E.mv m (by omega)
      clear C m
      have C := Lib.hid (N17.out _ H)
      clear H
      go_wp2_with fail
      refine (C.out).mono ?_
      rintro e w17 ⟨rfl, m, H⟩
      replace K := K.mv m (by omega)
      replace M := M.trans m (fun _ _ e => e)
      replace E := E.mv m (by omega)
      clear C m
      have C := Lib.hid (N18.out _ H)
      clear H
      go_wp2_with fail
      refine (C.out).mono ?_
      rintro e w18 ⟨⟨v18, rfl⟩, m, H⟩
      replace K := K.mv m (by omega)
      replace M := M.trans m (fun _ _ e => e)
      replace E := E.mv m (by omega)
      clear C m
      have FE := E.eleven
      have FK := K.eleven
      have R := (K.store11 (.int .i64 ix) (.int .i64 sb) (.string (T nm)) (.int .i64 ty) (.int .i64 ac) (.bool mp) (.bool st) (.int .i64 mx) (.int .i64 t13n) (.int .i64 t15n) (.slice none 0 0)).eleven
      have M2 := Lib.hid ((((((((((((M.over (q := w.heap.size) (Nat.le_refl _) 0 (.int .i64 ix)).over (q := w.heap.size) (Nat.le_refl _) 1 (.int .i64 sb)).over (q := w.heap.size) (Nat.le_refl _) 2 (.string (T nm))).over (q := w.heap.size) (Nat.le_refl _) 3 (.int .i64 ty)).over (q := w.heap.size) (Nat.le_refl _) 4 (.int .i64 ac)).over (q := w.heap.size) (Nat.le_refl _) 5 (.bool mp)).over (q := w.heap.size) (Nat.le_refl _) 6 (.bool st)).over (q := w.heap.size) (Nat.le_refl _) 7 (.int .i64 mx)).over (q := w.heap.size) (Nat.le_refl _) 8 (.int .i64 t13n)).over (q := w.heap.size) (Nat.le_refl _) 9 (.int .i64 t15n)).over (q := w.heap.size) (Nat.le_refl _) 10 (.slice none 0 0)))
      have H2 := Lib.hid ((((((((((((H.mv (Mv.setCell _ ⟨w.heap.size, 0, none⟩ (.int .i64 ix)) (fun q e => by have e' : q = w.heap.size := e; omega)).mv (Mv.setCell _ ⟨w.heap.size, 1, none⟩ (.int .i64 sb)) (fun q e => by have e' : q = w.heap.size := e; omega)).mv (Mv.setCell _ ⟨w.heap.size, 2, none⟩ (.string (T nm))) (fun q e => by have e' : q = w.heap.size := e; omega)).mv (Mv.setCell _ ⟨w.heap.size, 3, none⟩ (.int .i64 ty)) (fun q e => by have e' : q = w.heap.size := e; omega)).mv (Mv.setCell _ ⟨w.heap.size, 4, none⟩ (.int .i64 ac)) (fun q e => by have e' : q = w.heap.size := e; omega)).mv (Mv.setCell _ ⟨w.heap.size, 5, none⟩ (.bool mp)) (fun q e => by have e' : q = w.heap.size := e; omega)).mv (Mv.setCell _ ⟨w.heap.size, 6, none⟩ (.bool st)) (fun q e => by have e' : q = w.heap.size := e; omega)).mv (Mv.setCell _ ⟨w.heap.size, 7, none⟩ (.int .i64 mx)) (fun q e => by have e' : q = w.heap.size := e; omega)).mv (Mv.setCell _ ⟨w.heap.size, 8, none⟩ (.int .i64 t13n)) (fun q e => by have e' : q = w.heap.size := e; omega)).mv (Mv.setCell _ ⟨w.heap.size, 9, none⟩ (.int .i64 t15n)) (fun q e => by have e' : q = w.heap.size := e; omega)).mv (Mv.setCell _ ⟨w.heap.size, 10, none⟩ (.slice none 0 0)) (fun q e => by have e' : q = w.heap.size := e; omega)))
      clear H M E K
      go_wp2_with fail
      exact bodyPost_ret (v := .tuple #[.agg #[.int .i64 ix, .int .i64 sb, .string (T nm), .int .i64 ty, .int .i64 ac, .bool mp, .bool st, .int .i64 mx, .int .i64 t13n, .int .i64 t15n, .slice none 0 0], .string (T t17t)]) (by simp [results, Tryz.results21, go_sem, R]) rfl ⟨rfl, M2.out, H2.out⟩
end
end Go.Proofs.YtmolmpgampmolaaGreat
