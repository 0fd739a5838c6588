/-
  Walk: Scan of package lex.
  Conditions: none.
-/
import Derived.Test.YtnppihlalhaldaaLexNext
import Derived.Test.YtnppihlalhaldaaLexMem
namespace Go.Proofs.Ytnppihlalhaldaa
set_option linter.unusedVariables false
set_option linter.unusedSimpArgs false
open Go.RowKit
set_option maxRecDepth 100000 in
set_option maxHeartbeats 4000000 in
theorem Scan_any (s : List UInt8) (w : World) (hs : s.length ≤ 1000000) : Calls Try.prog 9 #[.string (T s)] w (ScanPost (Lx.scanS s) w) := by
  have hT := T_size s
  by_cases hb : 8192 < s.length
  · have hv : Lx.scanS s = ([], 3, 0) := if_pos hb
    have HV := Lib.hid hv; clear hv
    go_enter Try.func9, Try.ntmps9
    go_wp2_with fail
    go_ret3
    exact scan_none HV.out rfl (Below.refl _ _)
  have hs8 : s.length ≤ 8192 := by omega
  have hv : Lx.scanS s = Lx.glue [] (Lx.scanF (s.length + 1) s (Lx.pos s 0)) := by
    unfold Lx.scanS
    rw [if_neg hb, Lx.glue_nil]
  have hp0 := Lx.pos_le s 0
  have hd0 := Lx.pos_drop s 0
  rw [List.drop_zero] at hd0
  have H0 := Lib.hid (pass_any s w hs)
  rw [← hd0] at H0
  generalize hq : Lx.pos s 0 = q at *
  have HV : Hid (Lx.scanS s = Lx.glue [] (Lx.scanF (s.length + 1) s q)) := Lib.hid hv
  clear hv hd0 hb hq
  go_enter Try.func9, Try.ntmps9
  go_wp2_with fail
  refine (H0.out).mono ?_
  rintro e w1 ⟨rfl, b1⟩
  clear H0
  go_wp2_with fail
  go_loopw [5, 6] (fun v u wr => ∃ (k p : Nat) (ts : List Lx.Tk) (A1 : Option Addr) (c1 : Nat), v = .slice A1 ts.length c1 ∧ u = .string (T (s.drop p)) ∧ p ≤ s.length ∧ s.length < p + k ∧ ts.length ≤ p ∧ Hid (Lx.scanS s = Lx.glue ts (Lx.scanF k s p)) ∧ OTk wr w.heap.size A1 ts.length c1 ts ∧ Below w.heap.size w wr) (fun _ u _ => strLen u)
  case atStart => exact ⟨s.length + 1, q, [], none, 0, rfl, rfl, hp0, by omega, by simp, HV, OTk.none_ _ _, b1⟩
  case round =>
    obtain ⟨k, p, ts, A1, c1, rfl, rfl, hp, hk, hl, HG, os, bb⟩ := hrel
    have hlen : (s.drop p).length = s.length - p := List.length_drop ..
    cases hd : s.drop p with
    | nil =>
      rw [hd] at hlen
      have hz : s.length ≤ p := by simp at hlen; omega
      have HE := Lib.hid (HG.out.trans (Lx.glue_end ts hz))
      have h0 : T [] = (⟨#[]⟩ : ByteArray) := rfl
      clear hd HG hz hlen
      go_wp2_with fail
      go_ret3
      exact scan_some HE.out rfl os bb
    | cons c r =>
      rw [hd] at hlen
      have hplt : p < s.length := by simp at hlen; omega
      have N := next_any c r wr (by omega)
      have htl := T_toList (c :: r)
      have hne : ((c :: r : List UInt8) == []) = false := rfl
      have hT2 := T_size (c :: r)
      cases ht : Lx.tok (c :: r) with
      | mk t x =>
      rw [ht] at N
      obtain ⟨kd, tx, n, pl⟩ := t
      have N' : Calls Try.prog 16 #[.string (T (c :: r))] wr fun e w' => e = .returned (.tuple #[.agg #[.int .i64 kd, .string (T tx), .int .i64 n, .int .i64 0], .int .i64 x]) ∧ Below wr.heap.size wr w' := N
      clear N
      have N := N'
      clear N'
      rw [← hd] at ht
      by_cases hx : x = 0
      · subst hx
        obtain ⟨j, g1, g2, g3, g4⟩ := Lx.glue_step ts hplt hk ht
        dsimp only at g1 g2 g3 g4
        have htlen := Lx.tok_len (s := s.drop p) (by rw [ht])
        rw [ht, hd] at htlen
        dsimp only at htlen
        have hTx := T_size tx
        have hcut := fun w => run_T_rest (c :: r) .i64 (tx.length : Int) tx.length rfl htlen.2 w
        have hpd := Lx.pos_drop s (p + tx.length)
        have hdd : (c :: r).drop tx.length = s.drop (p + tx.length) := by rw [← hd, List.drop_drop]
        rw [hdd] at hcut
        have P := fun w => pass_any (s.drop (p + tx.length)) w (by rw [List.length_drop]; omega)
        rw [← hpd] at P
        have HG2 := Lib.hid (HG.out.trans g1)
        have HT := Lib.hid ht
        generalize Lx.pos s (p + tx.length) = q2 at *
        generalize s.drop (p + tx.length) = l2 at *
        generalize (c :: r : List UInt8) = l at *
        replace N := Lib.hid N; replace P := Lib.hid P
        have hpl : (s.length : Int) - (l.length : Int) = (p : Int) := by omega
        have HPL := Lib.hid hpl
        have HLEN := Lib.hid hlen
        have hll : l.length ≤ s.length := by omega
        clear hlen hpl hpd hdd g1 ht hd HG
        go_wp2_with fail
        refine (N.out).mono ?_
        rintro e w2 ⟨rfl, b2⟩
        have d2 := below_step bb b2 (Nat.le_refl _)
        have os2 := os.below b2
        clear N
        have hts1 : (ts.length + 1) * 40 ≤ 140737488355328 := by omega
        have hts2 : ts.length + 1 ≤ 9223372036854775807 := by omega
        have d3 := d2.alloc d2.size (.cells #[.int .i64 kd, .string (T tx), .int .i64 n, .int .i64 ((s.length : Int) - (l.length : Int))] 29)
        have os3 := os2.below (alloc_one w2 (.cells #[.int .i64 kd, .string (T tx), .int .i64 n, .int .i64 ((s.length : Int) - (l.length : Int))] 29))
        have K3 := Blk.new w2 29 #[.int .i64 kd, .string (T tx), .int .i64 n, .int .i64 ((s.length : Int) - (l.length : Int))]
        have hlt2 := os2.lt
        have HLT2 := Lib.hid hlt2
        clear os2 os hlt2
        go_wp2_with (at_builtin; refine wpList_apps ettk (fun _ => TkR) rfl (.tmp 33) (.tmp 35) rfl rfl rfl (by simp) w.heap.size os3 ⟨kd, tx, n, p⟩ (tkR_mk HPL.out) rfl (tok_oneCell _ _ _ _) hts1 hts2 d3.size (fun _ _ _ _ _ _ _ _ _ h => h) ?_; intro A3 c3 w3 os4 b4 g4 _; have K4 := (K3.grown g4 (fun e => by have := (HLT2.out _ e.symm).2; omega)).four; have d4 := d2.trans ((alloc_one w2 (.cells #[.int .i64 kd, .string (T tx), .int .i64 n, .int .i64 ((s.length : Int) - (l.length : Int))] 29)).mono d2.size |>.trans b4))
        refine (P.out _).mono ?_
        rintro e w5 ⟨rfl, b5⟩
        have d5 := below_step d4 b5 (Nat.le_refl _)
        have os5 := OTk.below os4 b5
        go_wp2_with fail
        go_roundw
        case rel => exact ⟨j, q2, ts ++ [⟨kd, tx, n, p⟩], A3, c3, by rw [List.length_append]; rfl, rfl, g3, g2, by rw [List.length_append]; simp; omega, HG2, by rw [List.length_append]; exact os5, d5⟩
        case measure =>
          have := HLEN.out
          simp [strLen, T_size]
          omega
      · have HE := Lib.hid (HG.out.trans (Lx.glue_bad ts hplt hk ht hx))
        have hx1 : (x != 0) = true := by simpa using hx
        have HPL : Hid ((s.length : Int) - ((c :: r).length : Int) = (p : Int)) := Lib.hid (by omega)
        have hll : (c :: r).length ≤ s.length := by omega
        have hlv : s.length - (c :: r).length < s.length - 0 := by omega
        clear hlv hlen
        generalize (c :: r : List UInt8) = l at *
        replace N := Lib.hid N
        clear ht hd HG hx
        go_wp2_with fail
        refine (N.out).mono ?_
        rintro e w2 ⟨rfl, b2⟩
        have d2 := below_step bb b2 (Nat.le_refl _)
        clear N
        go_wp2_with fail
        go_ret3
        exact scan_none HE.out HPL.out (d2.alloc d2.size _)
end Go.Proofs.Ytnppihlalhaldaa
