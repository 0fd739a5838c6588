/-
  Walk: Scan of the reference of package lex.
  Conditions: none.
-/
import Derived.Test.YtnppihlalhaldaaLexOne
import Derived.Test.YtnppihlalhaldaaLexMem
namespace Go.Proofs.Ytnppihlalhaldaa
set_option linter.unusedVariables false
set_option linter.unusedSimpArgs false
open Go.RowKit
theorem skip_z (s : List UInt8) (z : Int) (j : Nat) (hz : z = (j : Int)) (hs : s.length ≤ 1000000) (hj : j ≤ s.length) (w : World) :
    Calls Try.prog 17 #[.string (T s), .int .i64 z] w fun e w' => e = .returned (.int .i64 (Lx.pos s j : Int)) ∧ w' = w := by subst hz; exact skip_any s j w hs hj
set_option maxRecDepth 100000 in
set_option maxHeartbeats 4000000 in
theorem RScan_any (s : List UInt8) (w : World) (hs : s.length ≤ 1000000) : Calls Try.prog 10 #[.string (T s)] w (ScanPost (Lx.scanS s) w) := by
  have hT := T_size s
  by_cases hb : 8192 < s.length
  · have hv : Lx.scanS s = ([], 3, 0) := if_pos hb
    have HV := Lib.hid hv; clear hv
    go_enter Try.func10, Try.ntmps10
    go_wp2_with fail
    go_ret3
    exact scan_none HV.out rfl (Below.refl _ _)
  have hs8 : s.length ≤ 8192 := by omega
  have hv : Lx.scanS s = Lx.glue [] (Lx.scanF (s.length + 1) s (Lx.pos s 0)) := by
    unfold Lx.scanS
    rw [if_neg hb, Lx.glue_nil]
  have hp0 := Lx.pos_le s 0
  have H0 := Lib.hid (skip_z s 0 0 rfl hs (by omega) w)
  generalize hq : Lx.pos s 0 = q at *
  have HV : Hid (Lx.scanS s = Lx.glue [] (Lx.scanF (s.length + 1) s q)) := Lib.hid hv
  clear hv hb hq
  go_enter Try.func10, Try.ntmps10
  go_wp2_with fail
  refine (H0.out).mono ?_
  rintro e w ⟨rfl, rfl⟩
  clear H0
  go_wp2_with fail
  go_loopw [5, 6] (fun v u wr => ∃ (k p : Nat) (ts : List Lx.Tk) (A1 : Option Addr) (c1 : Nat), v = .slice A1 ts.length c1 ∧ u = .int .i64 p ∧ p ≤ s.length ∧ s.length < p + k ∧ ts.length ≤ p ∧ Hid (Lx.scanS s = Lx.glue ts (Lx.scanF k s p)) ∧ OTk wr w.heap.size A1 ts.length c1 ts ∧ Below w.heap.size w wr) (fun _ u _ => s.length - (intOf u).toNat)
  case atStart => exact ⟨s.length + 1, q, [], none, 0, rfl, rfl, hp0, by omega, by simp, HV, OTk.none_ _ _, Below.refl _ _⟩
  case round =>
    obtain ⟨k, p, ts, A1, c1, rfl, rfl, hp, hk, hl, HG, os, bb⟩ := hrel
    by_cases hplt : p < s.length
    · have N := one_any s p wr (by omega) hplt
      cases ht : Lx.tok (s.drop p) with
      | mk t x =>
      rw [ht] at N
      obtain ⟨kd, tx, n, pl⟩ := t
      by_cases hx : x = 0
      · subst hx
        have N' : Calls Try.prog 18 #[.string (T s), .int .i64 (p : Int)] wr fun e w' => e = .returned (.tuple #[.agg #[.int .i64 kd, .string (T tx), .int .i64 n, .int .i64 (p : Int)], .int .i64 0]) ∧ Below wr.heap.size wr w' := N
        clear N
        obtain ⟨j, g1, g2, g3, g4⟩ := Lx.glue_step ts hplt hk ht
        dsimp only at g1 g2 g3 g4
        have htlen := Lx.tok_len (s := s.drop p) (by rw [ht])
        rw [ht, List.length_drop] at htlen
        dsimp only at htlen
        have hTx := T_size tx
        have P := fun w => skip_z s ((p : Int) + (tx.length : Int)) (p + tx.length) (by omega) (by omega) (by omega) w
        have HG2 := Lib.hid (HG.out.trans g1)
        generalize Lx.pos s (p + tx.length) = q2 at *
        have N := Lib.hid N'
        replace P := Lib.hid P
        have hts1 : (ts.length + 1) * 40 ≤ 140737488355328 := by omega
        have hts2 : ts.length + 1 ≤ 9223372036854775807 := by omega
        clear N' g1 ht HG
        go_wp2_with fail
        refine (N.out).mono ?_
        rintro e w2 ⟨rfl, b2⟩
        have d2 := below_step bb b2 (Nat.le_refl _)
        have os2 := os.below b2
        have d3 := d2.alloc d2.size (.cells #[.int .i64 kd, .string (T tx), .int .i64 n, .int .i64 (p : Int)] 29)
        have os3 := os2.below (alloc_one w2 (.cells #[.int .i64 kd, .string (T tx), .int .i64 n, .int .i64 (p : Int)] 29))
        have K3 := Blk.new w2 29 #[.int .i64 kd, .string (T tx), .int .i64 n, .int .i64 (p : Int)]
        have hlt2 := os2.lt
        have HLT2 := Lib.hid hlt2
        clear N os2 os hlt2
        go_wp2_with (at_builtin; refine wpList_apps ettk (fun _ => TkR) rfl (.tmp 28) (.tmp 30) rfl rfl rfl (by simp) w.heap.size os3 ⟨kd, tx, n, p⟩ (tkR_mk rfl) rfl (tok_oneCell _ _ _ _) hts1 hts2 d3.size (fun _ _ _ _ _ _ _ _ _ h => h) ?_; intro A3 c3 w3 os4 b4 g4' _; have K4 := (K3.grown g4' (fun e => by have := (HLT2.out _ e.symm).2; omega)).four; have d4 := d2.trans ((alloc_one w2 (.cells #[.int .i64 kd, .string (T tx), .int .i64 n, .int .i64 (p : Int)] 29)).mono d2.size |>.trans b4))
        refine (P.out _).mono ?_
        rintro e w3 ⟨rfl, rfl⟩
        go_wp2_with fail
        go_roundw
        case rel => exact ⟨j, q2, ts ++ [⟨kd, tx, n, p⟩], A3, c3, by rw [List.length_append]; rfl, rfl, g3, g2, by rw [List.length_append]; simp; omega, HG2, by rw [List.length_append]; exact os4, d4⟩
        case measure => simp [intOf] <;> omega
      · have N' : Calls Try.prog 18 #[.string (T s), .int .i64 (p : Int)] wr fun e w' => e = .returned (.tuple #[.agg #[.int .i64 kd, .string (T tx), .int .i64 n, .int .i64 (if x = 0 then (p : Int) else 0)], .int .i64 x]) ∧ Below wr.heap.size wr w' := N
        clear N
        rw [if_neg hx] at N'
        have N := Lib.hid N'
        have HE := Lib.hid (HG.out.trans (Lx.glue_bad ts hplt hk ht hx))
        have hx1 : (x != 0) = true := by simpa using hx
        clear ht HG hx N'
        go_wp2_with fail
        refine (N.out).mono ?_
        rintro e w2 ⟨rfl, b2⟩
        have d2 := below_step bb b2 (Nat.le_refl _)
        clear N
        go_wp2_with fail
        go_ret3
        exact scan_none HE.out rfl (d2.alloc d2.size _)
    · have HE := Lib.hid (HG.out.trans (Lx.glue_end ts (by omega)))
      clear HG
      obtain rfl : p = s.length := by omega
      go_wp2_with fail
      go_ret3
      exact scan_some HE.out rfl os bb
end Go.Proofs.Ytnppihlalhaldaa
