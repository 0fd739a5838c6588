/-
  Texts joined: EdsRHead.
  Conditions: none.
-/
import Derived.Test.YtmolmpgampmolaaGreatJ07
import Derived.Test.YtmolmpgampmolaaGreatJ09
import Derived.Test.YtmolmpgampmolaaGreatJ10
import Derived.Test.YtmolmpgampmolaaGreatJ25
import Derived.Deep.DeepCutAuto
import Derived.Deep.CutBlock
/-
  Walk: head of the reference of layer 17 (printed by wip/gened2.py).
  Conditions: none.
-/
namespace Go.Proofs.YtmolmpgampmolaaGreat.Ed
set_option linter.unusedVariables false
set_option linter.unusedSimpArgs false
open Lx Ent
def headE (l : List Tk) (s : R) : En :=
  ⟨(headS l s).ix, (headS l s).sb, (headS l s).nm, (headS l s).ty, accT l s, false, false, if numB (headS l s).ty = true then 0 else maxT l (headS l s).st, 0, 0, []⟩
def kindM (l : List Tk) (s : R) : R := if isS l s 1 [] = true then (if (nameS (l.getD s.pos tk0).text).2 = true then s else failS s 15) else s
section
variable {l : List Tk} {s : R} {k : Int} {x : List UInt8}
theorem is_err (h : s.err ≠ 0) : isS l s k x = false := is_none (by unfold nextS; rw [if_pos (.inl h)])
theorem need_err (h : s.err ≠ 0) : needR l s k x = s := by unfold needR failS; rw [is_err h, if_neg (by simp), if_neg h]
theorem needT_err (h : s.err ≠ 0) : needT l s k = tk0 := by unfold needT; rw [is_err h, if_neg (by simp)]
theorem kind_m : needR l (kindM l s) 1 [] = kindR l s := by
  unfold kindM kindR
  split
  · rename_i hi
    split
    · unfold needR; rw [if_pos hi]
    · exact need_err (by unfold failS; rw [if_pos (is_lt hi).2]; exact (by decide : (15 : Int) ≠ 0))
  · rename_i hi
    unfold needR
    rw [if_neg hi]
theorem max_err (h : s.err ≠ 0) : maxT l s = 0 ∧ maxR l s = s := by
  unfold maxT maxR
  rw [need_err h, needT_err h, need_err h, need_err h]
  exact ⟨rfl, rfl⟩
theorem kind_name (t : List UInt8) (h : (nameS t).2 = false) : (nameS t).1 = 0 := by
  unfold nameS at h ⊢
  split
  · rfl
  · rename_i h1
    rw [if_neg h1] at h
    split at h
    · cases h
    · rfl
theorem bits_num' (t : Int) : numB t = true ↔ 0 < (Ty.kd t).bits := by
  unfold numB Ty.limS
  split
  · rename_i h; simp [h]
  · rename_i h
    split <;> simp <;> omega
theorem no_minus (h : ∀ t ∈ l, t.kind ≠ -1) : isS l s (-1) [] = false := by
  unfold isS
  cases hn : nextS l s with
  | none => rfl
  | some t =>
    obtain ⟨h1, _, h3⟩ := next_at hn
    have : t ∈ l := by
      rw [h1]
      simp only [List.getD_eq_getElem?_getD, List.getElem?_eq_getElem h3, Option.getD_some]
      exact List.getElem_mem h3
    have := h t this
    unfold hitB
    simp [this]
end
end Go.Proofs.YtmolmpgampmolaaGreat.Ed
namespace Go.Proofs.YtmolmpgampmolaaGreat
set_option linter.unusedVariables false
set_option linter.unusedSimpArgs false
open Go.RowKit Go.Sort
section
variable {w : World} {g : Nat} {A : Option Addr} {n c : Nat} {ts : List Lx.Tk} {s : Ed.R}
theorem h_mark {w : World} {s : Ed.R} (h : RdR w g A n c ts s) (y : List UInt8) : Calls Tryz.prog 56 #[.pointer (some ⟨g, 0, none⟩), .int .i64 5, .string (T y)] w fun e w' => (∃ v, e = .returned v) ∧ Mv (fun q => q = g) w w' ∧ RdR w' g A n c ts (Ed.needR ts s 5 y) := (rneed_any h 5 y).mono fun e w' h => ⟨⟨_, h.1⟩, h.2⟩
set_option maxRecDepth 100000 in
set_option maxHeartbeats 16000000 in
theorem rhead_any (h : RdR w g A n c ts s) (hkm : ∀ t ∈ ts, t.kind ≠ -1) : Calls Tryz.prog 54 #[.pointer (some ⟨g, 0, none⟩)] w fun e w' => e = .returned (enV (Ed.headE ts s) none 0 0) ∧ Mv (fun q => q = g) w w' ∧ RdR w' g A n c ts (Ed.accR ts s) := by
  have hgl := h.blk.lt
  have hlt := h.tok.lt
  have hln := h.tok.len
  have HKM := Lib.hid hkm
  clear hkm
  have b0 := alloc_two w (.cells #[.int .i64 0, .int .i64 0, .string ⟨#[]⟩, .int .i64 0, .int .i64 0, .bool false, .bool false, .int .i64 0, .int .i64 0, .int .i64 0, .slice none 0 0] 31) (.cells #[.int .i64 0, .int .i64 0, .string ⟨#[]⟩, .int .i64 0, .int .i64 0, .bool false, .bool false, .int .i64 0, .int .i64 0, .int .i64 0, .slice none 0 0] 31)
  have K : Blk ((w.alloc (.cells #[.int .i64 0, .int .i64 0, .string ⟨#[]⟩, .int .i64 0, .int .i64 0, .bool false, .bool false, .int .i64 0, .int .i64 0, .int .i64 0, .slice none 0 0] 31)).alloc (.cells #[.int .i64 0, .int .i64 0, .string ⟨#[]⟩, .int .i64 0, .int .i64 0, .bool false, .bool false, .int .i64 0, .int .i64 0, .int .i64 0, .slice none 0 0] 31)) w.heap.size 31 #[.int .i64 0, .int .i64 0, .string ⟨#[]⟩, .int .i64 0, .int .i64 0, .bool false, .bool false, .int .i64 0, .int .i64 0, .int .i64 0, .slice none 0 0] := (Blk.new w 31 #[.int .i64 0, .int .i64 0, .string ⟨#[]⟩, .int .i64 0, .int .i64 0, .bool false, .bool false, .int .i64 0, .int .i64 0, .int .i64 0, .slice none 0 0]).later (alloc_one _ _)
  have E : Blk ((w.alloc (.cells #[.int .i64 0, .int .i64 0, .string ⟨#[]⟩, .int .i64 0, .int .i64 0, .bool false, .bool false, .int .i64 0, .int .i64 0, .int .i64 0, .slice none 0 0] 31)).alloc (.cells #[.int .i64 0, .int .i64 0, .string ⟨#[]⟩, .int .i64 0, .int .i64 0, .bool false, .bool false, .int .i64 0, .int .i64 0, .int .i64 0, .slice none 0 0] 31)) (w.heap.size + 1) 31 #[.int .i64 0, .int .i64 0, .string ⟨#[]⟩, .int .i64 0, .int .i64 0, .bool false, .bool false, .int .i64 0, .int .i64 0, .int .i64 0, .slice none 0 0] := by
    have := Blk.new (w.alloc (.cells #[.int .i64 0, .int .i64 0, .string ⟨#[]⟩, .int .i64 0, .int .i64 0, .bool false, .bool false, .int .i64 0, .int .i64 0, .int .i64 0, .slice none 0 0] 31)) 31 #[.int .i64 0, .int .i64 0, .string ⟨#[]⟩, .int .i64 0, .int .i64 0, .bool false, .bool false, .int .i64 0, .int .i64 0, .int .i64 0, .slice none 0 0]
    simp only [World.size_alloc] at this
    exact this
  have M := Mv.of_new b0 (fun q => q = g)
  have H := h.below b0
  clear h b0
  obtain ⟨t1, ht1⟩ : ∃ t, t = needX ts s 3 [] := ⟨_, rfl⟩
  obtain ⟨s1, hs1⟩ : ∃ t, t = Ed.needR ts s 3 [] := ⟨_, rfl⟩
  obtain ⟨s2, hs2⟩ : ∃ t, t = Ed.needR ts s1 5 [58] := ⟨_, rfl⟩
  obtain ⟨t3, ht3⟩ : ∃ t, t = needX ts s2 2 [] := ⟨_, rfl⟩
  obtain ⟨s3, hs3⟩ : ∃ t, t = Ed.needR ts s2 2 [] := ⟨_, rfl⟩
  obtain ⟨t4, ht4⟩ : ∃ t, t = needX ts s3 1 [] := ⟨_, rfl⟩
  obtain ⟨s4, hs4⟩ : ∃ t, t = Ed.needR ts s3 1 [] := ⟨_, rfl⟩
  obtain ⟨ty, hty⟩ : ∃ t, t = Ed.kindT ts s4 := ⟨_, rfl⟩
  obtain ⟨sm, hsm⟩ : ∃ t, t = Ed.kindM ts s4 := ⟨_, rfl⟩
  obtain ⟨s5, hs5⟩ : ∃ t, t = Ed.kindR ts s4 := ⟨_, rfl⟩
  obtain ⟨mx, hmx⟩ : ∃ t, t = (if Ed.numB ty = true then (0 : Int) else Ed.maxT ts s5) := ⟨_, rfl⟩
  obtain ⟨s8, hs8⟩ : ∃ t, t = (if Ed.numB ty = true then s5 else Ed.maxR ts s5) := ⟨_, rfl⟩
  have hhd : Ed.headS ts s = ⟨t1.n, Ed.cntV t3.n, t4.text, ty, s5⟩ := by
    subst hs5 hty ht4 hs4 hs3 ht3 hs2 hs1 ht1
    rfl
  have hsz : Ed.sizR ts s = s8 := by unfold Ed.sizR; rw [hhd, hs8]
  have hacc : Ed.accR ts s = Ed.rightsR ts s8 := by unfold Ed.accR; rw [hsz]
  have hE : Ed.headE ts s = ⟨t1.n, Ed.cntV t3.n, t4.text, ty, Ed.rightsT ts s8, false, false, mx, 0, 0, []⟩ := by
    unfold Ed.headE Ed.accT
    rw [hhd, hsz, hmx]
  rw [hE, hacc]
  unfold enV
  dsimp only
  have hkm5 : Ed.needR ts sm 1 [] = s5 := by rw [hsm, hs5]; exact Ed.kind_m
  obtain ⟨t1k, t1t, t1n, t1p⟩ := t1
  obtain ⟨t3k, t3t, t3n, t3p⟩ := t3
  obtain ⟨t4k, t4t, t4n, t4p⟩ := t4
  have fd1 := fld2 t1k t1t t1n t1p
  have fd3 := fld2 t3k t3t t3n t3p
  have fd4 := fld1 t4k t4t t4n t4p
  have N1 := fun (w : World) (H : RdR w g A n c ts s) => rneed_any H 3 []
  rw [← ht1, ← hs1] at N1
  have N2 := fun (w : World) (H : RdR w g A n c ts s1) => h_mark H [58]
  rw [← hs2] at N2
  have N3 := fun (w : World) (H : RdR w g A n c ts s2) => rneed_any H 2 []
  rw [← ht3, ← hs3] at N3
  have N4 := fun (w : World) (H : RdR w g A n c ts s3) => rneed_any H 1 []
  rw [← ht4, ← hs4] at N4
  unfold tkW at N1 N3 N4
  have N5 := fun (w : World) (H : RdR w g A n c ts s4) => ris_any H 1 []
  have N6 := fun (w : World) (H : RdR w g A n c ts sm) => rneed_any H 1 []
  rw [hkm5] at N6
  generalize needX ts sm 1 [] = t6 at N6
  obtain ⟨t6k, t6t, t6n, t6p⟩ := t6
  unfold tkW at N6
  dsimp only at N1 N3 N4 N6 fd1 fd3 fd4 ⊢
  have SB := Lib.hid (fun w => small_any t3n w)
  generalize Ed.cntV t3n = sb at *
  have BT := Lib.hid (fun w => RTBits_any ty w)
  have HTY := Lib.hid hty
  have HSM := Lib.hid hsm
  have HMX := Lib.hid hmx
  have HS8 := Lib.hid hs8
  clear ht1 hs1 hs2 ht3 hs3 ht4 hs4 hty hsm hs5 hmx hs8 hhd hsz hacc hE hkm5
  replace N1 := Lib.hid N1
  replace N2 := Lib.hid N2
  replace N3 := Lib.hid N3
  replace N4 := Lib.hid N4
  replace N5 := Lib.hid N5
  replace N6 := Lib.hid N6
  have hd := Lib.hid (And.intro hlt hln)
  clear hlt hln
  go_enter Tryz.func54, Tryz.ntmps54
  have C := Lib.hid (N1.out _ H)
  have FE := E.eleven
  clear H
  go_wp2_with fail
  refine (C.out).mono ?_
  rintro e w1 ⟨rfl, m, H⟩
  replace K := K.mv m (by omega)
  replace E := E.mv m (by omega)
  replace M := M.trans m (fun _ _ e => e)
  clear C m FE
  have FE := E.eleven
  have E0 : Blk (w1.setCell ⟨(w.heap.size + 1), 0, none⟩ (.int .i64 t1n)) (w.heap.size + 1) 31 #[.int .i64 t1n, .int .i64 0, .string ⟨#[]⟩, .int .i64 0, .int .i64 0, .bool false, .bool false, .int .i64 0, .int .i64 0, .int .i64 0, .slice none 0 0] := E.set_ 0 (.int .i64 t1n)
  have H0 := H.mv (Mv.setCell w1 ⟨(w.heap.size + 1), 0, none⟩ (.int .i64 t1n)) (fun q e => by have e' : q = (w.heap.size + 1) := e; omega)
  replace K := K.mv (Mv.setCell w1 ⟨(w.heap.size + 1), 0, none⟩ (.int .i64 t1n)) (by show ¬ w.heap.size = (w.heap.size + 1); omega)
  replace M := M.over (q := (w.heap.size + 1)) (by omega) 0 (.int .i64 t1n)
  clear E H
  have E := E0
  have H := H0
  clear E0 H0
  have C := Lib.hid (N2.out _ H)
  have FE := E.eleven
  clear H
  go_wp2_with fail
  refine (C.out).mono ?_
  rintro e w2 ⟨⟨v2, rfl⟩, m, H⟩
  replace K := K.mv m (by omega)
  replace E := E.mv m (by omega)
  replace M := M.trans m (fun _ _ e => e)
  clear C m FE
  have C := Lib.hid (N3.out _ H)
  have FE := E.eleven
  clear H
  go_wp2_with fail
  refine (C.out).mono ?_
  rintro e w3 ⟨rfl, m, H⟩
  replace K := K.mv m (by omega)
  replace E := E.mv m (by omega)
  replace M := M.trans m (fun _ _ e => e)
  clear C m FE
  go_wp2_with fail
  refine (SB.out _).mono ?_
  rintro e _ ⟨rfl, rfl⟩
  clear SB
  have FE := E.eleven
  have E0 : Blk (w3.setCell ⟨(w.heap.size + 1), 1, none⟩ (.int .i64 sb)) (w.heap.size + 1) 31 #[.int .i64 t1n, .int .i64 sb, .string ⟨#[]⟩, .int .i64 0, .int .i64 0, .bool false, .bool false, .int .i64 0, .int .i64 0, .int .i64 0, .slice none 0 0] := E.set_ 1 (.int .i64 sb)
  have H0 := H.mv (Mv.setCell w3 ⟨(w.heap.size + 1), 1, none⟩ (.int .i64 sb)) (fun q e => by have e' : q = (w.heap.size + 1) := e; omega)
  replace K := K.mv (Mv.setCell w3 ⟨(w.heap.size + 1), 1, none⟩ (.int .i64 sb)) (by show ¬ w.heap.size = (w.heap.size + 1); omega)
  replace M := M.over (q := (w.heap.size + 1)) (by omega) 1 (.int .i64 sb)
  clear E H
  have E := E0
  have H := H0
  clear E0 H0
  have C := Lib.hid (N4.out _ H)
  have FE := E.eleven
  clear H
  go_wp2_with fail
  refine (C.out).mono ?_
  rintro e w4 ⟨rfl, m, H⟩
  replace K := K.mv m (by omega)
  replace E := E.mv m (by omega)
  replace M := M.trans m (fun _ _ e => e)
  clear C m FE
  have FE := E.eleven
  have E0 : Blk (w4.setCell ⟨(w.heap.size + 1), 2, none⟩ (.string (T t4t))) (w.heap.size + 1) 31 #[.int .i64 t1n, .int .i64 sb, .string (T t4t), .int .i64 0, .int .i64 0, .bool false, .bool false, .int .i64 0, .int .i64 0, .int .i64 0, .slice none 0 0] := E.set_ 2 (.string (T t4t))
  have H0 := H.mv (Mv.setCell w4 ⟨(w.heap.size + 1), 2, none⟩ (.string (T t4t))) (fun q e => by have e' : q = (w.heap.size + 1) := e; omega)
  replace K := K.mv (Mv.setCell w4 ⟨(w.heap.size + 1), 2, none⟩ (.string (T t4t))) (by show ¬ w.heap.size = (w.heap.size + 1); omega)
  replace M := M.over (q := (w.heap.size + 1)) (by omega) 2 (.string (T t4t))
  clear E H
  have E := E0
  have H := H0
  clear E0 H0
  have C := Lib.hid (N5.out _ H)
  have FE := E.eleven
  go_wp2_with fail
  refine (C.out).mono ?_
  rintro e w5 ⟨rfl, b5⟩
  replace K := K.later b5
  replace E := E.later b5
  replace M := M.trans (Mv.of_new b5 (fun q => q = g)) (fun _ _ e => e)
  replace H := H.below b5
  clear C FE b5 N1 N2 N3 N4 N5
  have FE := E.eleven
  have FH := H.blk.four
  go_upto_if 23 with fail
  go_cut [4] (fun _ wx => RdR wx g A n c ts sm ∧ Blk wx w.heap.size 31 #[.int .i64 0, .int .i64 0, .string ⟨#[]⟩, .int .i64 0, .int .i64 0, .bool false, .bool false, .int .i64 0, .int .i64 0, .int .i64 0, .slice none 0 0] ∧ Blk wx (w.heap.size + 1) 31 #[.int .i64 t1n, .int .i64 sb, .string (T t4t), .int .i64 ty, .int .i64 0, .bool false, .bool false, .int .i64 0, .int .i64 0, .int .i64 0, .slice none 0 0] ∧ Mv (fun q => q = g) w wx)
  case first =>
    have hty := HTY.out
    have hsm := HSM.out
    unfold Ed.kindT at hty
    unfold Ed.kindM at hsm
    cases hi : Ed.isS ts s4 1 []
    · rw [hi] at hty hsm
      simp only [Bool.false_eq_true, if_false] at hty hsm
      subst hty hsm
      go_wp2_with fail
      go_meet
      exact ⟨H, K, E, M⟩
    · rw [hi] at hty hsm
      simp only [if_true] at hty hsm
      obtain ⟨hp, he⟩ := Ed.is_lt hi
      obtain ⟨b, o, rfl, hb, q0, q1, q2, q3⟩ := H.tok.at_ (i := s4.pos) (by have := hd.out; omega)
      rw [show ts.getD s4.pos tkz = ts.getD s4.pos Lx.tk0 from rfl] at q1
      generalize (ts.getD s4.pos Lx.tk0).text = tx at *
      have BN := RByName_any tx w5.drew
      have h0 := Ed.kind_name tx
      generalize nameS tx = nt at *
      obtain ⟨nt1, nt2⟩ := nt
      dsimp only at BN hty hsm h0
      replace BN := Lib.hid BN
      have i2 : (s4.pos : Int) < (n : Int) := by have := hd.out; omega
      have i3 : (0 : Int) ≤ (s4.pos : Int) := by omega
      have g0 := cell_regrown (H.blk.cell 0)
      have g1 := cell_regrown (H.blk.cell 1)
      have p1 := cell_regrown q1
      have FHd := H.blk.four
      rw [he] at FHd
      clear q0 q2 q3 FH
      cases nt2
      · have h00 := h0 rfl
        subst h00
        simp only [Bool.false_eq_true, if_false] at hty hsm
        have HTY0 := Lib.hid hty
        have HSM0 := Lib.hid hsm
        have HE := Lib.hid he
        clear hty hsm h0 he hi
        go_wp2_with fail
        refine region_later (by kernel_rfl) ?_
        refine phase_later (by kernel_rfl) 6 (below_drew _) [0, 4, 1, 5, 2, 6, 3, 7, 8, 9, 10] rfl (by kernel_rfl) ?_
        simp only [picks, nth]
        repeat (go_big_quiet_step (fail))
        refine wpQuiet_nil ?_
        refine phase_op 11 5 rfl (by kernel_rfl) (by decide) ?_
        simp only [nth]
        go_wp2_with fail
        refine (BN.out).mono ?_
        rintro e _ ⟨rfl, rfl⟩
        go_wp2_with fail
        refine behind_later (below_drew _) ?_
        refine phase_later (by kernel_rfl) 0 (Below.refl _ _) [12, 13, 14, 15, 16] rfl (by kernel_rfl) ?_
        simp only [picks, nth]
        repeat (go_big_quiet_step (fail))
        refine wpQuiet_nil ?_
        refine phase_end (by kernel_rfl) ?_
        obtain ⟨w6, hw6⟩ : ∃ w6, w6 = w5.drew := ⟨_, rfl⟩
        rw [← hw6]
        have H6 : RdR w6 g (some ⟨b, o, none⟩) n c ts s4 := by rw [hw6]; exact H.below (below_drew _)
        have K6 : Blk w6 w.heap.size 31 #[.int .i64 0, .int .i64 0, .string ⟨#[]⟩, .int .i64 0, .int .i64 0, .bool false, .bool false, .int .i64 0, .int .i64 0, .int .i64 0, .slice none 0 0] := by rw [hw6]; exact K.drew
        have E6 : Blk w6 (w.heap.size + 1) 31 #[.int .i64 t1n, .int .i64 sb, .string (T t4t), .int .i64 0, .int .i64 0, .bool false, .bool false, .int .i64 0, .int .i64 0, .int .i64 0, .slice none 0 0] := by rw [hw6]; exact E.drew
        have M6 : Mv (fun q => q = g) w w6 := by rw [hw6]; exact M.drew
        have F6 := H6.blk.four
        rw [HE.out] at F6
        have H7 := H6.fail HE.out 15 (by decide)
        have M7 : Mv (fun q => q = g) w ((w6.setCell ⟨g, 2, none⟩ (.bool true)).setCell ⟨g, 3, none⟩ (.int .i64 15)) := (M6.trans (Mv.setCell _ ⟨g, 2, none⟩ _) fun _ _ e => e).trans (Mv.setCell _ ⟨g, 3, none⟩ _) fun _ _ e => e
        have K7 := (K6.mv (Mv.setCell w6 ⟨g, 2, none⟩ (.bool true)) (by show ¬ w.heap.size = g; omega)).mv (Mv.setCell (w6.setCell ⟨g, 2, none⟩ (.bool true)) ⟨g, 3, none⟩ (.int .i64 15)) (by show ¬ w.heap.size = g; omega)
        have E7 := (E6.mv (Mv.setCell w6 ⟨g, 2, none⟩ (.bool true)) (by show ¬ (w.heap.size + 1) = g; omega)).mv (Mv.setCell (w6.setCell ⟨g, 2, none⟩ (.bool true)) ⟨g, 3, none⟩ (.int .i64 15)) (by show ¬ (w.heap.size + 1) = g; omega)
        have G6 := (H6.blk.set_ 2 (.bool true)).four
        have FE7 := E7.eleven
        have E8 := E7.set_ 3 (.int .i64 0)
        have H8 := Lib.hid (H7.mv (Mv.setCell ((w6.setCell ⟨g, 2, none⟩ (.bool true)).setCell ⟨g, 3, none⟩ (.int .i64 15)) ⟨(w.heap.size + 1), 3, none⟩ (.int .i64 0)) (fun q e => by have e' : q = (w.heap.size + 1) := e; omega))
        have K8 := Lib.hid (K7.mv (Mv.setCell ((w6.setCell ⟨g, 2, none⟩ (.bool true)).setCell ⟨g, 3, none⟩ (.int .i64 15)) ⟨(w.heap.size + 1), 3, none⟩ (.int .i64 0)) (by show ¬ w.heap.size = (w.heap.size + 1); omega))
        have M8 := Lib.hid (M7.over (q := w.heap.size + 1) (by omega) 3 (.int .i64 0))
        have E8' := Lib.hid E8
        clear H H6 H7 K K6 K7 E E6 E7 E8 M M6 M7 FE FHd hw6 g0 g1 p1 BN
        go_wp2_with fail
        go_meet
        refine ⟨?_, K8.out, ?_, M8.out⟩
        · rw [HSM0.out]; exact H8.out
        · rw [HTY0.out]; exact E8'.out
      · simp only [if_true] at hty hsm
        have HTY0 := Lib.hid hty
        have HSM0 := Lib.hid hsm
        clear hty hsm h0 he hi
        go_wp2_with fail
        refine region_later (by kernel_rfl) ?_
        refine phase_later (by kernel_rfl) 6 (below_drew _) [0, 4, 1, 5, 2, 6, 3, 7, 8, 9, 10] rfl (by kernel_rfl) ?_
        simp only [picks, nth]
        repeat (go_big_quiet_step (fail))
        refine wpQuiet_nil ?_
        refine phase_op 11 5 rfl (by kernel_rfl) (by decide) ?_
        simp only [nth]
        go_wp2_with fail
        refine (BN.out).mono ?_
        rintro e _ ⟨rfl, rfl⟩
        go_wp2_with fail
        refine behind_later (below_drew _) ?_
        refine phase_later (by kernel_rfl) 0 (Below.refl _ _) [12, 13, 14, 15, 16] rfl (by kernel_rfl) ?_
        simp only [picks, nth]
        repeat (go_big_quiet_step (fail))
        refine wpQuiet_nil ?_
        refine phase_end (by kernel_rfl) ?_
        obtain ⟨w6, hw6⟩ : ∃ w6, w6 = w5.drew := ⟨_, rfl⟩
        rw [← hw6]
        have H6 : RdR w6 g (some ⟨b, o, none⟩) n c ts s4 := by rw [hw6]; exact H.below (below_drew _)
        have K6 : Blk w6 w.heap.size 31 #[.int .i64 0, .int .i64 0, .string ⟨#[]⟩, .int .i64 0, .int .i64 0, .bool false, .bool false, .int .i64 0, .int .i64 0, .int .i64 0, .slice none 0 0] := by rw [hw6]; exact K.drew
        have E6 : Blk w6 (w.heap.size + 1) 31 #[.int .i64 t1n, .int .i64 sb, .string (T t4t), .int .i64 0, .int .i64 0, .bool false, .bool false, .int .i64 0, .int .i64 0, .int .i64 0, .slice none 0 0] := by rw [hw6]; exact E.drew
        have M6 : Mv (fun q => q = g) w w6 := by rw [hw6]; exact M.drew
        have FE6 := E6.eleven
        have E8 := Lib.hid (E6.set_ 3 (.int .i64 nt1))
        have H8 := Lib.hid (H6.mv (Mv.setCell w6 ⟨(w.heap.size + 1), 3, none⟩ (.int .i64 nt1)) (fun q e => by have e' : q = (w.heap.size + 1) := e; omega))
        have K8 := Lib.hid (K6.mv (Mv.setCell w6 ⟨(w.heap.size + 1), 3, none⟩ (.int .i64 nt1)) (by show ¬ w.heap.size = (w.heap.size + 1); omega))
        have M8 := Lib.hid (M6.over (q := w.heap.size + 1) (by omega) 3 (.int .i64 nt1))
        clear H H6 K K6 E E6 M M6 FE FHd hw6 g0 g1 p1 BN
        go_wp2_with fail
        go_meet
        refine ⟨?_, K8.out, ?_, M8.out⟩
        · rw [HSM0.out]; exact H8.out
        · rw [HTY0.out]; exact E8.out
  case rest =>
    clear H K E M FE FH HTY HSM
    obtain ⟨H, K, E, M⟩ := hcut
    obtain ⟨wb, hwb⟩ : ∃ w, w = wc := ⟨wc, rfl⟩
    subst hwb
    have C := Lib.hid (N6.out _ H)
    have FE := E.eleven
    clear H
    go_wp2_with fail
    refine (C.out).mono ?_
    rintro e w6 ⟨rfl, m, H⟩
    replace K := K.mv m (by omega)
    replace E := E.mv m (by omega)
    replace M := M.trans m (fun _ _ e => e)
    clear C m FE
    have hMX := HMX.out
    have hS8 := HS8.out
    have FE := E.eleven
    have FH := H.blk.four
    by_cases he : s5.err = 0
    case neg =>
      have e1 : (s5.err != 0) = true := by simpa using he
      obtain ⟨x1, x2⟩ := Ed.max_err (l := ts) he
      have hm0 : mx = 0 := by rw [hMX, x1]; split <;> rfl
      have hs0 : s5 = s8 := by rw [hS8, x2]; split <;> rfl
      rw [e1] at FH
      rw [hs0] at H
      subst hm0
      clear HMX HS8 BT hMX hS8 he x1 x2 hs0
      go_wp2_with fail
      go_loopw [6] (fun i wr => ∃ (k : Nat) (ac : Int), 1 ≤ k ∧ k ≤ 5 ∧ i = .int .i64 k ∧ ((ac = 0 ∧ NoR ts s8 k ∧ RdR wr g A n c ts s8) ∨ (ac ≠ 0 ∧ Ed.rightsT ts s8 = ac ∧ RdR wr g A n c ts (Ed.rightsR ts s8))) ∧ Blk wr w.heap.size 31 #[.int .i64 0, .int .i64 0, .string ⟨#[]⟩, .int .i64 0, .int .i64 0, .bool false, .bool false, .int .i64 0, .int .i64 0, .int .i64 0, .slice none 0 0] ∧ Blk wr (w.heap.size + 1) 31 #[.int .i64 t1n, .int .i64 sb, .string (T t4t), .int .i64 ty, .int .i64 ac, .bool false, .bool false, .int .i64 0, .int .i64 0, .int .i64 0, .slice none 0 0] ∧ Mv (fun q => q = g) w wr) (fun i _ => 5 - (intOf i).toNat)
      case atStart => exact ⟨1, 0, by omega, by omega, rfl, .inl ⟨rfl, fun j h1 h2 => absurd h1 (by omega), H⟩, K, E, M⟩
      case round =>
        clear H K E M
        obtain ⟨k, ac, hk1, hk5, rfl, hst, K, E, M⟩ := hrel
        have FE := E.eleven
        by_cases hlt : k < 5
        · rcases hst with ⟨rfl, hno, H⟩ | ⟨hac, hrt, H⟩
          · have RW := Lib.hid (rrights_any k hk1 (by omega) wr)
            have TK := fun (w1 : World) (b : Below wr.heap.size wr w1) => rtake_any (H.below b) 1 (Ed.wordS (k : Int))
            have hyes := rights_yes hno ⟨hk1, by omega⟩
            have hstep : Ed.isS ts s8 1 (Ed.wordS (k : Int)) = false → NoR ts s8 (k + 1) := fun hf j h1 h2 => by
              rcases Nat.lt_or_ge j k with h3 | h3
              · exact hno j h1 h3
              · obtain rfl : j = k := by omega
                exact hf
            have htn := take_no (ts := ts) (s := s8) (k := 1) (y := Ed.wordS (k : Int))
            have hty := take_yes (ts := ts) (s := s8) (k := 1) (y := Ed.wordS (k : Int))
            cases hi : Ed.isS ts s8 1 (Ed.wordS (k : Int))
            · rw [hi, htn hi] at TK
              have HS := Lib.hid (hstep hi)
              replace TK := Lib.hid TK
              clear hyes hstep htn hty hno H hi
              go_wp2_with fail
              refine (RW.out).mono ?_
              rintro e w9 ⟨rfl, b9⟩
              have TK2 := Lib.hid (TK.out w9 b9)
              replace K := K.later b9
              replace E := E.later b9
              replace M := M.trans (Mv.of_new b9 (fun q => q = g)) (fun _ _ e => e)
              clear RW TK FE b9
              have FE := E.eleven
              go_wp2_with fail
              refine (TK2.out).mono ?_
              rintro e w10 ⟨rfl, m, H⟩
              replace K := K.mv m (by omega)
              replace E := E.mv m (by omega)
              replace M := M.trans m (fun _ _ e => e)
              clear TK2 m FE
              go_wp2_with fail
              go_roundw
              case rel => exact ⟨k + 1, 0, by omega, by omega, by go_num, .inl ⟨rfl, HS.out, H⟩, K, E, M⟩
              case measure => simp [intOf] <;> omega
            · rw [hi, hty hi] at TK
              obtain ⟨y1, y2⟩ := hyes hi
              rw [← y2] at TK
              have HY := Lib.hid y1
              replace TK := Lib.hid TK
              clear hyes hstep htn hty hno H hi y1 y2
              go_wp2_with fail
              refine (RW.out).mono ?_
              rintro e w9 ⟨rfl, b9⟩
              have TK2 := Lib.hid (TK.out w9 b9)
              replace K := K.later b9
              replace E := E.later b9
              replace M := M.trans (Mv.of_new b9 (fun q => q = g)) (fun _ _ e => e)
              clear RW TK FE b9
              have FE := E.eleven
              go_wp2_with fail
              refine (TK2.out).mono ?_
              rintro e w10 ⟨rfl, m, H⟩
              replace K := K.mv m (by omega)
              replace E := E.mv m (by omega)
              replace M := M.trans m (fun _ _ e => e)
              clear TK2 m FE
              have FE := E.eleven
              have E0 : Blk (w10.setCell ⟨(w.heap.size + 1), 4, none⟩ (.int .i64 (k : Int))) (w.heap.size + 1) 31 #[.int .i64 t1n, .int .i64 sb, .string (T t4t), .int .i64 ty, .int .i64 (k : Int), .bool false, .bool false, .int .i64 0, .int .i64 0, .int .i64 0, .slice none 0 0] := E.set_ 4 (.int .i64 (k : Int))
              have H0 := H.mv (Mv.setCell w10 ⟨(w.heap.size + 1), 4, none⟩ (.int .i64 (k : Int))) (fun q e => by have e' : q = (w.heap.size + 1) := e; omega)
              replace K := K.mv (Mv.setCell w10 ⟨(w.heap.size + 1), 4, none⟩ (.int .i64 (k : Int))) (by show ¬ w.heap.size = (w.heap.size + 1); omega)
              replace M := M.over (q := (w.heap.size + 1)) (by omega) 4 (.int .i64 (k : Int))
              clear E H
              have E := E0
              have H := H0
              clear E0 H0
              go_wp2_with fail
              go_roundw
              case rel => exact ⟨k + 1, (k : Int), by omega, by omega, by go_num, .inr ⟨by omega, HY.out, H⟩, K, E, M⟩
              case measure => simp [intOf] <;> omega
          · have e1 : (ac == 0) = false := by simpa using hac
            have HA := Lib.hid (And.intro hac hrt)
            clear hac hrt
            go_wp2_with fail
            go_roundw
            case rel => exact ⟨k + 1, ac, by omega, by omega, by go_num, .inr ⟨HA.out.1, HA.out.2, H⟩, K, E, M⟩
            case measure => simp [intOf] <;> omega
        · obtain rfl : k = 5 := by omega
          rcases hst with ⟨rfl, hno, H⟩ | ⟨hac, hrt, H⟩
          · obtain ⟨y1, y2⟩ := rights_no hno
            have NX := rneed_any H (-1) []
            rw [need_no (Ed.no_minus HKM.out), ← y2] at NX
            generalize needX ts s8 (-1) [] = tz at NX
            have HY := Lib.hid y1
            replace NX := Lib.hid NX
            clear hno y1 y2 H
            go_wp2_with fail
            refine (NX.out).mono ?_
            rintro e w10 ⟨rfl, m, H⟩
            replace K := K.mv m (by omega)
            replace E := E.mv m (by omega)
            replace M := M.trans m (fun _ _ e => e)
            clear NX m FE
            have FE := E.eleven
            have FK := K.eleven
            have R := (K.store11 (.int .i64 t1n) (.int .i64 sb) (.string (T t4t)) (.int .i64 ty) (.int .i64 0) (.bool false) (.bool false) (.int .i64 0) (.int .i64 0) (.int .i64 0) (.slice none 0 0)).eleven
            have M2 := Lib.hid ((((((((((((M.over (q := w.heap.size) (Nat.le_refl _) 0 (.int .i64 t1n)).over (q := w.heap.size) (Nat.le_refl _) 1 (.int .i64 sb)).over (q := w.heap.size) (Nat.le_refl _) 2 (.string (T t4t))).over (q := w.heap.size) (Nat.le_refl _) 3 (.int .i64 ty)).over (q := w.heap.size) (Nat.le_refl _) 4 (.int .i64 0)).over (q := w.heap.size) (Nat.le_refl _) 5 (.bool false)).over (q := w.heap.size) (Nat.le_refl _) 6 (.bool false)).over (q := w.heap.size) (Nat.le_refl _) 7 (.int .i64 0)).over (q := w.heap.size) (Nat.le_refl _) 8 (.int .i64 0)).over (q := w.heap.size) (Nat.le_refl _) 9 (.int .i64 0)).over (q := w.heap.size) (Nat.le_refl _) 10 (.slice none 0 0)))
            have H2 := Lib.hid ((((((((((((H.mv (Mv.setCell _ ⟨w.heap.size, 0, none⟩ (.int .i64 t1n)) (fun q e => by have e' : q = w.heap.size := e; omega)).mv (Mv.setCell _ ⟨w.heap.size, 1, none⟩ (.int .i64 sb)) (fun q e => by have e' : q = w.heap.size := e; omega)).mv (Mv.setCell _ ⟨w.heap.size, 2, none⟩ (.string (T t4t))) (fun q e => by have e' : q = w.heap.size := e; omega)).mv (Mv.setCell _ ⟨w.heap.size, 3, none⟩ (.int .i64 ty)) (fun q e => by have e' : q = w.heap.size := e; omega)).mv (Mv.setCell _ ⟨w.heap.size, 4, none⟩ (.int .i64 0)) (fun q e => by have e' : q = w.heap.size := e; omega)).mv (Mv.setCell _ ⟨w.heap.size, 5, none⟩ (.bool false)) (fun q e => by have e' : q = w.heap.size := e; omega)).mv (Mv.setCell _ ⟨w.heap.size, 6, none⟩ (.bool false)) (fun q e => by have e' : q = w.heap.size := e; omega)).mv (Mv.setCell _ ⟨w.heap.size, 7, none⟩ (.int .i64 0)) (fun q e => by have e' : q = w.heap.size := e; omega)).mv (Mv.setCell _ ⟨w.heap.size, 8, none⟩ (.int .i64 0)) (fun q e => by have e' : q = w.heap.size := e; omega)).mv (Mv.setCell _ ⟨w.heap.size, 9, none⟩ (.int .i64 0)) (fun q e => by have e' : q = w.heap.size := e; omega)).mv (Mv.setCell _ ⟨w.heap.size, 10, none⟩ (.slice none 0 0)) (fun q e => by have e' : q = w.heap.size := e; omega)))
            have HT := Lib.hid HY.out
            clear H M E K
            go_wp2_with fail
            exact bodyPost_ret (v := .agg #[.int .i64 t1n, .int .i64 sb, .string (T t4t), .int .i64 ty, .int .i64 0, .bool false, .bool false, .int .i64 0, .int .i64 0, .int .i64 0, .slice none 0 0]) (by simp [results, Tryz.results54, go_sem, R]) rfl ⟨by rw [HT.out], M2.out, H2.out⟩
          · have e1 : (ac == 0) = false := by simpa using hac
            have HRT := Lib.hid hrt
            clear hac hrt FE
            have FE := E.eleven
            have FK := K.eleven
            have R := (K.store11 (.int .i64 t1n) (.int .i64 sb) (.string (T t4t)) (.int .i64 ty) (.int .i64 ac) (.bool false) (.bool false) (.int .i64 0) (.int .i64 0) (.int .i64 0) (.slice none 0 0)).eleven
            have M2 := Lib.hid ((((((((((((M.over (q := w.heap.size) (Nat.le_refl _) 0 (.int .i64 t1n)).over (q := w.heap.size) (Nat.le_refl _) 1 (.int .i64 sb)).over (q := w.heap.size) (Nat.le_refl _) 2 (.string (T t4t))).over (q := w.heap.size) (Nat.le_refl _) 3 (.int .i64 ty)).over (q := w.heap.size) (Nat.le_refl _) 4 (.int .i64 ac)).over (q := w.heap.size) (Nat.le_refl _) 5 (.bool false)).over (q := w.heap.size) (Nat.le_refl _) 6 (.bool false)).over (q := w.heap.size) (Nat.le_refl _) 7 (.int .i64 0)).over (q := w.heap.size) (Nat.le_refl _) 8 (.int .i64 0)).over (q := w.heap.size) (Nat.le_refl _) 9 (.int .i64 0)).over (q := w.heap.size) (Nat.le_refl _) 10 (.slice none 0 0)))
            have H2 := Lib.hid ((((((((((((H.mv (Mv.setCell _ ⟨w.heap.size, 0, none⟩ (.int .i64 t1n)) (fun q e => by have e' : q = w.heap.size := e; omega)).mv (Mv.setCell _ ⟨w.heap.size, 1, none⟩ (.int .i64 sb)) (fun q e => by have e' : q = w.heap.size := e; omega)).mv (Mv.setCell _ ⟨w.heap.size, 2, none⟩ (.string (T t4t))) (fun q e => by have e' : q = w.heap.size := e; omega)).mv (Mv.setCell _ ⟨w.heap.size, 3, none⟩ (.int .i64 ty)) (fun q e => by have e' : q = w.heap.size := e; omega)).mv (Mv.setCell _ ⟨w.heap.size, 4, none⟩ (.int .i64 ac)) (fun q e => by have e' : q = w.heap.size := e; omega)).mv (Mv.setCell _ ⟨w.heap.size, 5, none⟩ (.bool false)) (fun q e => by have e' : q = w.heap.size := e; omega)).mv (Mv.setCell _ ⟨w.heap.size, 6, none⟩ (.bool false)) (fun q e => by have e' : q = w.heap.size := e; omega)).mv (Mv.setCell _ ⟨w.heap.size, 7, none⟩ (.int .i64 0)) (fun q e => by have e' : q = w.heap.size := e; omega)).mv (Mv.setCell _ ⟨w.heap.size, 8, none⟩ (.int .i64 0)) (fun q e => by have e' : q = w.heap.size := e; omega)).mv (Mv.setCell _ ⟨w.heap.size, 9, none⟩ (.int .i64 0)) (fun q e => by have e' : q = w.heap.size := e; omega)).mv (Mv.setCell _ ⟨w.heap.size, 10, none⟩ (.slice none 0 0)) (fun q e => by have e' : q = w.heap.size := e; omega)))
            have HT := Lib.hid HRT.out
            clear H M E K
            go_wp2_with fail
            exact bodyPost_ret (v := .agg #[.int .i64 t1n, .int .i64 sb, .string (T t4t), .int .i64 ty, .int .i64 ac, .bool false, .bool false, .int .i64 0, .int .i64 0, .int .i64 0, .slice none 0 0]) (by simp [results, Tryz.results54, go_sem, R]) rfl ⟨by rw [HT.out], M2.out, H2.out⟩
    have e1 : (s5.err != 0) = false := by rw [he]; rfl
    rw [e1] at FH
    have BT2 := Lib.hid (BT.out w6)
    by_cases hnb : Ed.numB ty = true
    · have hb := (Ed.bits_num' ty).1 hnb
      rw [if_pos hnb] at hMX hS8
      have e2 : (((Ty.kd ty).bits : Int) == 0) = false := beq_eq_false_iff_ne.2 (by omega)
      generalize (Ty.kd ty).bits = bt at *
      rw [← hS8] at H
      subst hMX
      clear HMX HS8 BT hS8 hnb hb he
      go_wp2_with fail
      refine (BT2.out).mono ?_
      rintro e _ ⟨rfl, rfl⟩
      clear BT2
      go_wp2_with fail
      go_loopw [6] (fun i wr => ∃ (k : Nat) (ac : Int), 1 ≤ k ∧ k ≤ 5 ∧ i = .int .i64 k ∧ ((ac = 0 ∧ NoR ts s8 k ∧ RdR wr g A n c ts s8) ∨ (ac ≠ 0 ∧ Ed.rightsT ts s8 = ac ∧ RdR wr g A n c ts (Ed.rightsR ts s8))) ∧ Blk wr w.heap.size 31 #[.int .i64 0, .int .i64 0, .string ⟨#[]⟩, .int .i64 0, .int .i64 0, .bool false, .bool false, .int .i64 0, .int .i64 0, .int .i64 0, .slice none 0 0] ∧ Blk wr (w.heap.size + 1) 31 #[.int .i64 t1n, .int .i64 sb, .string (T t4t), .int .i64 ty, .int .i64 ac, .bool false, .bool false, .int .i64 0, .int .i64 0, .int .i64 0, .slice none 0 0] ∧ Mv (fun q => q = g) w wr) (fun i _ => 5 - (intOf i).toNat)
      case atStart => exact ⟨1, 0, by omega, by omega, rfl, .inl ⟨rfl, fun j h1 h2 => absurd h1 (by omega), H⟩, K, E, M⟩
      case round =>
        clear H K E M
        obtain ⟨k, ac, hk1, hk5, rfl, hst, K, E, M⟩ := hrel
        have FE := E.eleven
        by_cases hlt : k < 5
        · rcases hst with ⟨rfl, hno, H⟩ | ⟨hac, hrt, H⟩
          · have RW := Lib.hid (rrights_any k hk1 (by omega) wr)
            have TK := fun (w1 : World) (b : Below wr.heap.size wr w1) => rtake_any (H.below b) 1 (Ed.wordS (k : Int))
            have hyes := rights_yes hno ⟨hk1, by omega⟩
            have hstep : Ed.isS ts s8 1 (Ed.wordS (k : Int)) = false → NoR ts s8 (k + 1) := fun hf j h1 h2 => by
              rcases Nat.lt_or_ge j k with h3 | h3
              · exact hno j h1 h3
              · obtain rfl : j = k := by omega
                exact hf
            have htn := take_no (ts := ts) (s := s8) (k := 1) (y := Ed.wordS (k : Int))
            have hty := take_yes (ts := ts) (s := s8) (k := 1) (y := Ed.wordS (k : Int))
            cases hi : Ed.isS ts s8 1 (Ed.wordS (k : Int))
            · rw [hi, htn hi] at TK
              have HS := Lib.hid (hstep hi)
              replace TK := Lib.hid TK
              clear hyes hstep htn hty hno H hi
              go_wp2_with fail
              refine (RW.out).mono ?_
              rintro e w9 ⟨rfl, b9⟩
              have TK2 := Lib.hid (TK.out w9 b9)
              replace K := K.later b9
              replace E := E.later b9
              replace M := M.trans (Mv.of_new b9 (fun q => q = g)) (fun _ _ e => e)
              clear RW TK FE b9
              have FE := E.eleven
              go_wp2_with fail
              refine (TK2.out).mono ?_
              rintro e w10 ⟨rfl, m, H⟩
              replace K := K.mv m (by omega)
              replace E := E.mv m (by omega)
              replace M := M.trans m (fun _ _ e => e)
              clear TK2 m FE
              go_wp2_with fail
              go_roundw
              case rel => exact ⟨k + 1, 0, by omega, by omega, by go_num, .inl ⟨rfl, HS.out, H⟩, K, E, M⟩
              case measure => simp [intOf] <;> omega
            · rw [hi, hty hi] at TK
              obtain ⟨y1, y2⟩ := hyes hi
              rw [← y2] at TK
              have HY := Lib.hid y1
              replace TK := Lib.hid TK
              clear hyes hstep htn hty hno H hi y1 y2
              go_wp2_with fail
              refine (RW.out).mono ?_
              rintro e w9 ⟨rfl, b9⟩
              have TK2 := Lib.hid (TK.out w9 b9)
              replace K := K.later b9
              replace E := E.later b9
              replace M := M.trans (Mv.of_new b9 (fun q => q = g)) (fun _ _ e => e)
              clear RW TK FE b9
              have FE := E.eleven
              go_wp2_with fail
              refine (TK2.out).mono ?_
              rintro e w10 ⟨rfl, m, H⟩
              replace K := K.mv m (by omega)
              replace E := E.mv m (by omega)
              replace M := M.trans m (fun _ _ e => e)
              clear TK2 m FE
              have FE := E.eleven
              have E0 : Blk (w10.setCell ⟨(w.heap.size + 1), 4, none⟩ (.int .i64 (k : Int))) (w.heap.size + 1) 31 #[.int .i64 t1n, .int .i64 sb, .string (T t4t), .int .i64 ty, .int .i64 (k : Int), .bool false, .bool false, .int .i64 0, .int .i64 0, .int .i64 0, .slice none 0 0] := E.set_ 4 (.int .i64 (k : Int))
              have H0 := H.mv (Mv.setCell w10 ⟨(w.heap.size + 1), 4, none⟩ (.int .i64 (k : Int))) (fun q e => by have e' : q = (w.heap.size + 1) := e; omega)
              replace K := K.mv (Mv.setCell w10 ⟨(w.heap.size + 1), 4, none⟩ (.int .i64 (k : Int))) (by show ¬ w.heap.size = (w.heap.size + 1); omega)
              replace M := M.over (q := (w.heap.size + 1)) (by omega) 4 (.int .i64 (k : Int))
              clear E H
              have E := E0
              have H := H0
              clear E0 H0
              go_wp2_with fail
              go_roundw
              case rel => exact ⟨k + 1, (k : Int), by omega, by omega, by go_num, .inr ⟨by omega, HY.out, H⟩, K, E, M⟩
              case measure => simp [intOf] <;> omega
          · have e1 : (ac == 0) = false := by simpa using hac
            have HA := Lib.hid (And.intro hac hrt)
            clear hac hrt
            go_wp2_with fail
            go_roundw
            case rel => exact ⟨k + 1, ac, by omega, by omega, by go_num, .inr ⟨HA.out.1, HA.out.2, H⟩, K, E, M⟩
            case measure => simp [intOf] <;> omega
        · obtain rfl : k = 5 := by omega
          rcases hst with ⟨rfl, hno, H⟩ | ⟨hac, hrt, H⟩
          · obtain ⟨y1, y2⟩ := rights_no hno
            have NX := rneed_any H (-1) []
            rw [need_no (Ed.no_minus HKM.out), ← y2] at NX
            generalize needX ts s8 (-1) [] = tz at NX
            have HY := Lib.hid y1
            replace NX := Lib.hid NX
            clear hno y1 y2 H
            go_wp2_with fail
            refine (NX.out).mono ?_
            rintro e w10 ⟨rfl, m, H⟩
            replace K := K.mv m (by omega)
            replace E := E.mv m (by omega)
            replace M := M.trans m (fun _ _ e => e)
            clear NX m FE
            have FE := E.eleven
            have FK := K.eleven
            have R := (K.store11 (.int .i64 t1n) (.int .i64 sb) (.string (T t4t)) (.int .i64 ty) (.int .i64 0) (.bool false) (.bool false) (.int .i64 0) (.int .i64 0) (.int .i64 0) (.slice none 0 0)).eleven
            have M2 := Lib.hid ((((((((((((M.over (q := w.heap.size) (Nat.le_refl _) 0 (.int .i64 t1n)).over (q := w.heap.size) (Nat.le_refl _) 1 (.int .i64 sb)).over (q := w.heap.size) (Nat.le_refl _) 2 (.string (T t4t))).over (q := w.heap.size) (Nat.le_refl _) 3 (.int .i64 ty)).over (q := w.heap.size) (Nat.le_refl _) 4 (.int .i64 0)).over (q := w.heap.size) (Nat.le_refl _) 5 (.bool false)).over (q := w.heap.size) (Nat.le_refl _) 6 (.bool false)).over (q := w.heap.size) (Nat.le_refl _) 7 (.int .i64 0)).over (q := w.heap.size) (Nat.le_refl _) 8 (.int .i64 0)).over (q := w.heap.size) (Nat.le_refl _) 9 (.int .i64 0)).over (q := w.heap.size) (Nat.le_refl _) 10 (.slice none 0 0)))
            have H2 := Lib.hid ((((((((((((H.mv (Mv.setCell _ ⟨w.heap.size, 0, none⟩ (.int .i64 t1n)) (fun q e => by have e' : q = w.heap.size := e; omega)).mv (Mv.setCell _ ⟨w.heap.size, 1, none⟩ (.int .i64 sb)) (fun q e => by have e' : q = w.heap.size := e; omega)).mv (Mv.setCell _ ⟨w.heap.size, 2, none⟩ (.string (T t4t))) (fun q e => by have e' : q = w.heap.size := e; omega)).mv (Mv.setCell _ ⟨w.heap.size, 3, none⟩ (.int .i64 ty)) (fun q e => by have e' : q = w.heap.size := e; omega)).mv (Mv.setCell _ ⟨w.heap.size, 4, none⟩ (.int .i64 0)) (fun q e => by have e' : q = w.heap.size := e; omega)).mv (Mv.setCell _ ⟨w.heap.size, 5, none⟩ (.bool false)) (fun q e => by have e' : q = w.heap.size := e; omega)).mv (Mv.setCell _ ⟨w.heap.size, 6, none⟩ (.bool false)) (fun q e => by have e' : q = w.heap.size := e; omega)).mv (Mv.setCell _ ⟨w.heap.size, 7, none⟩ (.int .i64 0)) (fun q e => by have e' : q = w.heap.size := e; omega)).mv (Mv.setCell _ ⟨w.heap.size, 8, none⟩ (.int .i64 0)) (fun q e => by have e' : q = w.heap.size := e; omega)).mv (Mv.setCell _ ⟨w.heap.size, 9, none⟩ (.int .i64 0)) (fun q e => by have e' : q = w.heap.size := e; omega)).mv (Mv.setCell _ ⟨w.heap.size, 10, none⟩ (.slice none 0 0)) (fun q e => by have e' : q = w.heap.size := e; omega)))
            have HT := Lib.hid HY.out
            clear H M E K
            go_wp2_with fail
            exact bodyPost_ret (v := .agg #[.int .i64 t1n, .int .i64 sb, .string (T t4t), .int .i64 ty, .int .i64 0, .bool false, .bool false, .int .i64 0, .int .i64 0, .int .i64 0, .slice none 0 0]) (by simp [results, Tryz.results54, go_sem, R]) rfl ⟨by rw [HT.out], M2.out, H2.out⟩
          · have e1 : (ac == 0) = false := by simpa using hac
            have HRT := Lib.hid hrt
            clear hac hrt FE
            have FE := E.eleven
            have FK := K.eleven
            have R := (K.store11 (.int .i64 t1n) (.int .i64 sb) (.string (T t4t)) (.int .i64 ty) (.int .i64 ac) (.bool false) (.bool false) (.int .i64 0) (.int .i64 0) (.int .i64 0) (.slice none 0 0)).eleven
            have M2 := Lib.hid ((((((((((((M.over (q := w.heap.size) (Nat.le_refl _) 0 (.int .i64 t1n)).over (q := w.heap.size) (Nat.le_refl _) 1 (.int .i64 sb)).over (q := w.heap.size) (Nat.le_refl _) 2 (.string (T t4t))).over (q := w.heap.size) (Nat.le_refl _) 3 (.int .i64 ty)).over (q := w.heap.size) (Nat.le_refl _) 4 (.int .i64 ac)).over (q := w.heap.size) (Nat.le_refl _) 5 (.bool false)).over (q := w.heap.size) (Nat.le_refl _) 6 (.bool false)).over (q := w.heap.size) (Nat.le_refl _) 7 (.int .i64 0)).over (q := w.heap.size) (Nat.le_refl _) 8 (.int .i64 0)).over (q := w.heap.size) (Nat.le_refl _) 9 (.int .i64 0)).over (q := w.heap.size) (Nat.le_refl _) 10 (.slice none 0 0)))
            have H2 := Lib.hid ((((((((((((H.mv (Mv.setCell _ ⟨w.heap.size, 0, none⟩ (.int .i64 t1n)) (fun q e => by have e' : q = w.heap.size := e; omega)).mv (Mv.setCell _ ⟨w.heap.size, 1, none⟩ (.int .i64 sb)) (fun q e => by have e' : q = w.heap.size := e; omega)).mv (Mv.setCell _ ⟨w.heap.size, 2, none⟩ (.string (T t4t))) (fun q e => by have e' : q = w.heap.size := e; omega)).mv (Mv.setCell _ ⟨w.heap.size, 3, none⟩ (.int .i64 ty)) (fun q e => by have e' : q = w.heap.size := e; omega)).mv (Mv.setCell _ ⟨w.heap.size, 4, none⟩ (.int .i64 ac)) (fun q e => by have e' : q = w.heap.size := e; omega)).mv (Mv.setCell _ ⟨w.heap.size, 5, none⟩ (.bool false)) (fun q e => by have e' : q = w.heap.size := e; omega)).mv (Mv.setCell _ ⟨w.heap.size, 6, none⟩ (.bool false)) (fun q e => by have e' : q = w.heap.size := e; omega)).mv (Mv.setCell _ ⟨w.heap.size, 7, none⟩ (.int .i64 0)) (fun q e => by have e' : q = w.heap.size := e; omega)).mv (Mv.setCell _ ⟨w.heap.size, 8, none⟩ (.int .i64 0)) (fun q e => by have e' : q = w.heap.size := e; omega)).mv (Mv.setCell _ ⟨w.heap.size, 9, none⟩ (.int .i64 0)) (fun q e => by have e' : q = w.heap.size := e; omega)).mv (Mv.setCell _ ⟨w.heap.size, 10, none⟩ (.slice none 0 0)) (fun q e => by have e' : q = w.heap.size := e; omega)))
            have HT := Lib.hid HRT.out
            clear H M E K
            go_wp2_with fail
            exact bodyPost_ret (v := .agg #[.int .i64 t1n, .int .i64 sb, .string (T t4t), .int .i64 ty, .int .i64 ac, .bool false, .bool false, .int .i64 0, .int .i64 0, .int .i64 0, .slice none 0 0]) (by simp [results, Tryz.results54, go_sem, R]) rfl ⟨by rw [HT.out], M2.out, H2.out⟩
    · have hb : (Ty.kd ty).bits = 0 := Nat.eq_zero_of_not_pos fun h => hnb ((Ed.bits_num' ty).2 h)
      rw [if_neg hnb] at hMX hS8
      rw [hb] at BT2
      unfold Ed.maxT at hMX
      unfold Ed.maxR at hS8
      have N7 := fun (w : World) (H : RdR w g A n c ts s5) => h_mark H [91]
      generalize Ed.needR ts s5 5 [91] = s6 at *
      have N8 := fun (w : World) (H : RdR w g A n c ts s6) => rneed_any H 2 []
      rw [needX_nil] at N8
      generalize Ed.needT ts s6 2 = t8 at *
      generalize Ed.needR ts s6 2 [] = s7 at *
      have N9 := fun (w : World) (H : RdR w g A n c ts s7) => h_mark H [93]
      rw [← hS8] at N9
      obtain ⟨t8k, t8t, t8n, t8p⟩ := t8
      have fd8 := fld2 t8k t8t t8n t8p
      unfold tkW at N8
      dsimp only at N8 fd8 hMX
      have SB8 := fun w => small_any t8n w
      rw [← hMX] at SB8
      replace SB8 := Lib.hid SB8
      replace N7 := Lib.hid N7
      replace N8 := Lib.hid N8
      replace N9 := Lib.hid N9
      clear HMX HS8 BT hS8 hMX hnb hb he
      go_wp2_with fail
      refine (BT2.out).mono ?_
      rintro e _ ⟨rfl, rfl⟩
      clear BT2
      have C := Lib.hid (N7.out _ H)
      have FE := E.eleven
      clear H
      go_wp2_with fail
      refine (C.out).mono ?_
      rintro e w7 ⟨⟨v7, rfl⟩, m, H⟩
      replace K := K.mv m (by omega)
      replace E := E.mv m (by omega)
      replace M := M.trans m (fun _ _ e => e)
      clear C m FE
      have C := Lib.hid (N8.out _ H)
      have FE := E.eleven
      clear H
      go_wp2_with fail
      refine (C.out).mono ?_
      rintro e w8 ⟨rfl, m, H⟩
      replace K := K.mv m (by omega)
      replace E := E.mv m (by omega)
      replace M := M.trans m (fun _ _ e => e)
      clear C m FE
      go_wp2_with fail
      refine (SB8.out _).mono ?_
      rintro e _ ⟨rfl, rfl⟩
      clear SB8
      have FE := E.eleven
      have E0 : Blk (w8.setCell ⟨(w.heap.size + 1), 7, none⟩ (.int .i64 mx)) (w.heap.size + 1) 31 #[.int .i64 t1n, .int .i64 sb, .string (T t4t), .int .i64 ty, .int .i64 0, .bool false, .bool false, .int .i64 mx, .int .i64 0, .int .i64 0, .slice none 0 0] := E.set_ 7 (.int .i64 mx)
      have H0 := H.mv (Mv.setCell w8 ⟨(w.heap.size + 1), 7, none⟩ (.int .i64 mx)) (fun q e => by have e' : q = (w.heap.size + 1) := e; omega)
      replace K := K.mv (Mv.setCell w8 ⟨(w.heap.size + 1), 7, none⟩ (.int .i64 mx)) (by show ¬ w.heap.size = (w.heap.size + 1); omega)
      replace M := M.over (q := (w.heap.size + 1)) (by omega) 7 (.int .i64 mx)
      clear E H
      have E := E0
      have H := H0
      clear E0 H0
      have C := Lib.hid (N9.out _ H)
      have FE := E.eleven
      clear H
      go_wp2_with fail
      refine (C.out).mono ?_
      rintro e w9 ⟨⟨v9, rfl⟩, m, H⟩
      replace K := K.mv m (by omega)
      replace E := E.mv m (by omega)
      replace M := M.trans m (fun _ _ e => e)
      clear C m FE
      go_wp2_with fail
      go_loopw [6] (fun i wr => ∃ (k : Nat) (ac : Int), 1 ≤ k ∧ k ≤ 5 ∧ i = .int .i64 k ∧ ((ac = 0 ∧ NoR ts s8 k ∧ RdR wr g A n c ts s8) ∨ (ac ≠ 0 ∧ Ed.rightsT ts s8 = ac ∧ RdR wr g A n c ts (Ed.rightsR ts s8))) ∧ Blk wr w.heap.size 31 #[.int .i64 0, .int .i64 0, .string ⟨#[]⟩, .int .i64 0, .int .i64 0, .bool false, .bool false, .int .i64 0, .int .i64 0, .int .i64 0, .slice none 0 0] ∧ Blk wr (w.heap.size + 1) 31 #[.int .i64 t1n, .int .i64 sb, .string (T t4t), .int .i64 ty, .int .i64 ac, .bool false, .bool false, .int .i64 mx, .int .i64 0, .int .i64 0, .slice none 0 0] ∧ Mv (fun q => q = g) w wr) (fun i _ => 5 - (intOf i).toNat)
      case atStart => exact ⟨1, 0, by omega, by omega, rfl, .inl ⟨rfl, fun j h1 h2 => absurd h1 (by omega), H⟩, K, E, M⟩
      case round =>
        clear H K E M
        obtain ⟨k, ac, hk1, hk5, rfl, hst, K, E, M⟩ := hrel
        have FE := E.eleven
        by_cases hlt : k < 5
        · rcases hst with ⟨rfl, hno, H⟩ | ⟨hac, hrt, H⟩
          · have RW := Lib.hid (rrights_any k hk1 (by omega) wr)
            have TK := fun (w1 : World) (b : Below wr.heap.size wr w1) => rtake_any (H.below b) 1 (Ed.wordS (k : Int))
            have hyes := rights_yes hno ⟨hk1, by omega⟩
            have hstep : Ed.isS ts s8 1 (Ed.wordS (k : Int)) = false → NoR ts s8 (k + 1) := fun hf j h1 h2 => by
              rcases Nat.lt_or_ge j k with h3 | h3
              · exact hno j h1 h3
              · obtain rfl : j = k := by omega
                exact hf
            have htn := take_no (ts := ts) (s := s8) (k := 1) (y := Ed.wordS (k : Int))
            have hty := take_yes (ts := ts) (s := s8) (k := 1) (y := Ed.wordS (k : Int))
            cases hi : Ed.isS ts s8 1 (Ed.wordS (k : Int))
            · rw [hi, htn hi] at TK
              have HS := Lib.hid (hstep hi)
              replace TK := Lib.hid TK
              clear hyes hstep htn hty hno H hi
              go_wp2_with fail
              refine (RW.out).mono ?_
              rintro e w9 ⟨rfl, b9⟩
              have TK2 := Lib.hid (TK.out w9 b9)
              replace K := K.later b9
              replace E := E.later b9
              replace M := M.trans (Mv.of_new b9 (fun q => q = g)) (fun _ _ e => e)
              clear RW TK FE b9
              have FE := E.eleven
              go_wp2_with fail
              refine (TK2.out).mono ?_
              rintro e w10 ⟨rfl, m, H⟩
              replace K := K.mv m (by omega)
              replace E := E.mv m (by omega)
              replace M := M.trans m (fun _ _ e => e)
              clear TK2 m FE
              go_wp2_with fail
              go_roundw
              case rel => exact ⟨k + 1, 0, by omega, by omega, by go_num, .inl ⟨rfl, HS.out, H⟩, K, E, M⟩
              case measure => simp [intOf] <;> omega
            · rw [hi, hty hi] at TK
              obtain ⟨y1, y2⟩ := hyes hi
              rw [← y2] at TK
              have HY := Lib.hid y1
              replace TK := Lib.hid TK
              clear hyes hstep htn hty hno H hi y1 y2
              go_wp2_with fail
              refine (RW.out).mono ?_
              rintro e w9 ⟨rfl, b9⟩
              have TK2 := Lib.hid (TK.out w9 b9)
              replace K := K.later b9
              replace E := E.later b9
              replace M := M.trans (Mv.of_new b9 (fun q => q = g)) (fun _ _ e => e)
              clear RW TK FE b9
              have FE := E.eleven
              go_wp2_with fail
              refine (TK2.out).mono ?_
              rintro e w10 ⟨rfl, m, H⟩
              replace K := K.mv m (by omega)
              replace E := E.mv m (by omega)
              replace M := M.trans m (fun _ _ e => e)
              clear TK2 m FE
              have FE := E.eleven
              have E0 : Blk (w10.setCell ⟨(w.heap.size + 1), 4, none⟩ (.int .i64 (k : Int))) (w.heap.size + 1) 31 #[.int .i64 t1n, .int .i64 sb, .string (T t4t), .int .i64 ty, .int .i64 (k : Int), .bool false, .bool false, .int .i64 mx, .int .i64 0, .int .i64 0, .slice none 0 0] := E.set_ 4 (.int .i64 (k : Int))
              have H0 := H.mv (Mv.setCell w10 ⟨(w.heap.size + 1), 4, none⟩ (.int .i64 (k : Int))) (fun q e => by have e' : q = (w.heap.size + 1) := e; omega)
              replace K := K.mv (Mv.setCell w10 ⟨(w.heap.size + 1), 4, none⟩ (.int .i64 (k : Int))) (by show ¬ w.heap.size = (w.heap.size + 1); omega)
              replace M := M.over (q := (w.heap.size + 1)) (by omega) 4 (.int .i64 (k : Int))
              clear E H
              have E := E0
              have H := H0
              clear E0 H0
              go_wp2_with fail
              go_roundw
              case rel => exact ⟨k + 1, (k : Int), by omega, by omega, by go_num, .inr ⟨by omega, HY.out, H⟩, K, E, M⟩
              case measure => simp [intOf] <;> omega
          · have e1 : (ac == 0) = false := by simpa using hac
            have HA := Lib.hid (And.intro hac hrt)
            clear hac hrt
            go_wp2_with fail
            go_roundw
            case rel => exact ⟨k + 1, ac, by omega, by omega, by go_num, .inr ⟨HA.out.1, HA.out.2, H⟩, K, E, M⟩
            case measure => simp [intOf] <;> omega
        · obtain rfl : k = 5 := by omega
          rcases hst with ⟨rfl, hno, H⟩ | ⟨hac, hrt, H⟩
          · obtain ⟨y1, y2⟩ := rights_no hno
            have NX := rneed_any H (-1) []
            rw [need_no (Ed.no_minus HKM.out), ← y2] at NX
            generalize needX ts s8 (-1) [] = tz at NX
            have HY := Lib.hid y1
            replace NX := Lib.hid NX
            clear hno y1 y2 H
            go_wp2_with fail
            refine (NX.out).mono ?_
            rintro e w10 ⟨rfl, m, H⟩
            replace K := K.mv m (by omega)
            replace E := E.mv m (by omega)
            replace M := M.trans m (fun _ _ e => e)
            clear NX m FE
            have FE := E.eleven
            have FK := K.eleven
            have R := (K.store11 (.int .i64 t1n) (.int .i64 sb) (.string (T t4t)) (.int .i64 ty) (.int .i64 0) (.bool false) (.bool false) (.int .i64 mx) (.int .i64 0) (.int .i64 0) (.slice none 0 0)).eleven
            have M2 := Lib.hid ((((((((((((M.over (q := w.heap.size) (Nat.le_refl _) 0 (.int .i64 t1n)).over (q := w.heap.size) (Nat.le_refl _) 1 (.int .i64 sb)).over (q := w.heap.size) (Nat.le_refl _) 2 (.string (T t4t))).over (q := w.heap.size) (Nat.le_refl _) 3 (.int .i64 ty)).over (q := w.heap.size) (Nat.le_refl _) 4 (.int .i64 0)).over (q := w.heap.size) (Nat.le_refl _) 5 (.bool false)).over (q := w.heap.size) (Nat.le_refl _) 6 (.bool false)).over (q := w.heap.size) (Nat.le_refl _) 7 (.int .i64 mx)).over (q := w.heap.size) (Nat.le_refl _) 8 (.int .i64 0)).over (q := w.heap.size) (Nat.le_refl _) 9 (.int .i64 0)).over (q := w.heap.size) (Nat.le_refl _) 10 (.slice none 0 0)))
            have H2 := Lib.hid ((((((((((((H.mv (Mv.setCell _ ⟨w.heap.size, 0, none⟩ (.int .i64 t1n)) (fun q e => by have e' : q = w.heap.size := e; omega)).mv (Mv.setCell _ ⟨w.heap.size, 1, none⟩ (.int .i64 sb)) (fun q e => by have e' : q = w.heap.size := e; omega)).mv (Mv.setCell _ ⟨w.heap.size, 2, none⟩ (.string (T t4t))) (fun q e => by have e' : q = w.heap.size := e; omega)).mv (Mv.setCell _ ⟨w.heap.size, 3, none⟩ (.int .i64 ty)) (fun q e => by have e' : q = w.heap.size := e; omega)).mv (Mv.setCell _ ⟨w.heap.size, 4, none⟩ (.int .i64 0)) (fun q e => by have e' : q = w.heap.size := e; omega)).mv (Mv.setCell _ ⟨w.heap.size, 5, none⟩ (.bool false)) (fun q e => by have e' : q = w.heap.size := e; omega)).mv (Mv.setCell _ ⟨w.heap.size, 6, none⟩ (.bool false)) (fun q e => by have e' : q = w.heap.size := e; omega)).mv (Mv.setCell _ ⟨w.heap.size, 7, none⟩ (.int .i64 mx)) (fun q e => by have e' : q = w.heap.size := e; omega)).mv (Mv.setCell _ ⟨w.heap.size, 8, none⟩ (.int .i64 0)) (fun q e => by have e' : q = w.heap.size := e; omega)).mv (Mv.setCell _ ⟨w.heap.size, 9, none⟩ (.int .i64 0)) (fun q e => by have e' : q = w.heap.size := e; omega)).mv (Mv.setCell _ ⟨w.heap.size, 10, none⟩ (.slice none 0 0)) (fun q e => by have e' : q = w.heap.size := e; omega)))
            have HT := Lib.hid HY.out
            clear H M E K
            go_wp2_with fail
            exact bodyPost_ret (v := .agg #[.int .i64 t1n, .int .i64 sb, .string (T t4t), .int .i64 ty, .int .i64 0, .bool false, .bool false, .int .i64 mx, .int .i64 0, .int .i64 0, .slice none 0 0]) (by simp [results, Tryz.results54, go_sem, R]) rfl ⟨by rw [HT.out], M2.out, H2.out⟩
          · have e1 : (ac == 0) = false := by simpa using hac
            have HRT := Lib.hid hrt
            clear hac hrt FE
            have FE := E.eleven
            have FK := K.eleven
            have R := (K.store11 (.int .i64 t1n) (.int .i64 sb) (.string (T t4t)) (.int .i64 ty) (.int .i64 ac) (.bool false) (.bool false) (.int .i64 mx) (.int .i64 0) (.int .i64 0) (.slice none 0 0)).eleven
            have M2 := Lib.hid ((((((((((((M.over (q := w.heap.size) (Nat.le_refl _) 0 (.int .i64 t1n)).over (q := w.heap.size) (Nat.le_refl _) 1 (.int .i64 sb)).over (q := w.heap.size) (Nat.le_refl _) 2 (.string (T t4t))).over (q := w.heap.size) (Nat.le_refl _) 3 (.int .i64 ty)).over (q := w.heap.size) (Nat.le_refl _) 4 (.int .i64 ac)).over (q := w.heap.size) (Nat.le_refl _) 5 (.bool false)).over (q := w.heap.size) (Nat.le_refl _) 6 (.bool false)).over (q := w.heap.size) (Nat.le_refl _) 7 (.int .i64 mx)).over (q := w.heap.size) (Nat.le_refl _) 8 (.int .i64 0)).over (q := w.heap.size) (Nat.le_refl _) 9 (.int .i64 0)).over (q := w.heap.size) (Nat.le_refl _) 10 (.slice none 0 0)))
            have H2 := Lib.hid ((((((((((((H.mv (Mv.setCell _ ⟨w.heap.size, 0, none⟩ (.int .i64 t1n)) (fun q e => by have e' : q = w.heap.size := e; omega)).mv (Mv.setCell _ ⟨w.heap.size, 1, none⟩ (.int .i64 sb)) (fun q e => by have e' : q = w.heap.size := e; omega)).mv (Mv.setCell _ ⟨w.heap.size, 2, none⟩ (.string (T t4t))) (fun q e => by have e' : q = w.heap.size := e; omega)).mv (Mv.setCell _ ⟨w.heap.size, 3, none⟩ (.int .i64 ty)) (fun q e => by have e' : q = w.heap.size := e; omega)).mv (Mv.setCell _ ⟨w.heap.size, 4, none⟩ (.int .i64 ac)) (fun q e => by have e' : q = w.heap.size := e; omega)).mv (Mv.setCell _ ⟨w.heap.size, 5, none⟩ (.bool false)) (fun q e => by have e' : q = w.heap.size := e; omega)).mv (Mv.setCell _ ⟨w.heap.size, 6, none⟩ (.bool false)) (fun q e => by have e' : q = w.heap.size := e; omega)).mv (Mv.setCell _ ⟨w.heap.size, 7, none⟩ (.int .i64 mx)) (fun q e => by have e' : q = w.heap.size := e; omega)).mv (Mv.setCell _ ⟨w.heap.size, 8, none⟩ (.int .i64 0)) (fun q e => by have e' : q = w.heap.size := e; omega)).mv (Mv.setCell _ ⟨w.heap.size, 9, none⟩ (.int .i64 0)) (fun q e => by have e' : q = w.heap.size := e; omega)).mv (Mv.setCell _ ⟨w.heap.size, 10, none⟩ (.slice none 0 0)) (fun q e => by have e' : q = w.heap.size := e; omega)))
            have HT := Lib.hid HRT.out
            clear H M E K
            go_wp2_with fail
            exact bodyPost_ret (v := .agg #[.int .i64 t1n, .int .i64 sb, .string (T t4t), .int .i64 ty, .int .i64 ac, .bool false, .bool false, .int .i64 mx, .int .i64 0, .int .i64 0, .slice none 0 0]) (by simp [results, Tryz.results54, go_sem, R]) rfl ⟨by rw [HT.out], M2.out, H2.out⟩
end
end Go.Proofs.YtmolmpgampmolaaGreat
