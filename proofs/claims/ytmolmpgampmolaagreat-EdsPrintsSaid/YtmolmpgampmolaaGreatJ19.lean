/-
  Texts joined: LexScan, LexLaws.
  Conditions: none.
-/
import Derived.Test.YtmolmpgampmolaaGreatJ02
import Derived.Test.YtmolmpgampmolaaGreatJ06
import Derived.Test.YtmolmpgampmolaaGreatJ18
/-
  Walk: Scan of package lex.
  Conditions: none.
-/
namespace Go.Proofs.YtmolmpgampmolaaGreat
set_option linter.unusedVariables false
set_option linter.unusedSimpArgs false
open Go.RowKit
set_option maxRecDepth 100000 in
set_option maxHeartbeats 4000000 in
theorem Scan_any (s : List UInt8) (w : World) (hs : s.length ≤ 1000000) : Calls Tryz.prog 16 #[.string (T s)] w (ScanPost (Lx.scanS s) w) := by
  have hT := T_size s
  by_cases hb : 8192 < s.length
  · have hv : Lx.scanS s = ([], 3, 0) := if_pos hb
    have HV := Lib.hid hv; clear hv
    go_enter Tryz.func16, Tryz.ntmps16
    go_wp2_with fail
    go_ret3
    exact scan_none HV.out rfl (Below.refl _ _)
  have hs8 : s.length ≤ 8192 := by omega
  have hv : Lx.scanS s = Lx.glue [] (Lx.scanF (s.length + 1) s (Lx.pos s 0)) := by
    unfold Lx.scanS
    rw [if_neg hb, Lx.glue_nil]
  have hp0 := Lx.pos_le s 0
  have hd0 := Lx.pos_drop s 0
  rw [List.drop_zero] at hd0
  have H0 := Lib.hid (pass_any s w hs)
  rw [← hd0] at H0
  generalize hq : Lx.pos s 0 = q at *
  have HV : Hid (Lx.scanS s = Lx.glue [] (Lx.scanF (s.length + 1) s q)) := Lib.hid hv
  clear hv hd0 hb hq
  go_enter Tryz.func16, Tryz.ntmps16
  go_wp2_with fail
  refine (H0.out).mono ?_
  rintro e w1 ⟨rfl, b1⟩
  clear H0
  go_wp2_with fail
  go_loopw [5, 6] (fun v u wr => ∃ (k p : Nat) (ts : List Lx.Tk) (A1 : Option Addr) (c1 : Nat), v = .slice A1 ts.length c1 ∧ u = .string (T (s.drop p)) ∧ p ≤ s.length ∧ s.length < p + k ∧ ts.length ≤ p ∧ Hid (Lx.scanS s = Lx.glue ts (Lx.scanF k s p)) ∧ OTk wr w.heap.size A1 ts.length c1 ts ∧ Below w.heap.size w wr) (fun _ u _ => strLen u)
  case atStart => exact ⟨s.length + 1, q, [], none, 0, rfl, rfl, hp0, by omega, by simp, HV, OTk.none_ _ _, b1⟩
  case round =>
    obtain ⟨k, p, ts, A1, c1, rfl, rfl, hp, hk, hl, HG, os, bb⟩ := hrel
    have hlen : (s.drop p).length = s.length - p := List.length_drop ..
    cases hd : s.drop p with
    | nil =>
      rw [hd] at hlen
      have hz : s.length ≤ p := by simp at hlen; omega
      have HE := Lib.hid (HG.out.trans (Lx.glue_end ts hz))
      have h0 : T [] = (⟨#[]⟩ : ByteArray) := rfl
      clear hd HG hz hlen
      go_wp2_with fail
      go_ret3
      exact scan_some HE.out rfl os bb
    | cons c r =>
      rw [hd] at hlen
      have hplt : p < s.length := by simp at hlen; omega
      have N := next_any c r wr (by omega)
      have htl := T_toList (c :: r)
      have hne : ((c :: r : List UInt8) == []) = false := rfl
      have hT2 := T_size (c :: r)
      cases ht : Lx.tok (c :: r) with
      | mk t x =>
      rw [ht] at N
      obtain ⟨kd, tx, n, pl⟩ := t
      have N' : Calls Tryz.prog 43 #[.string (T (c :: r))] wr fun e w' => e = .returned (.tuple #[.agg #[.int .i64 kd, .string (T tx), .int .i64 n, .int .i64 0], .int .i64 x]) ∧ Below wr.heap.size wr w' := N
      clear N
      have N := N'
      clear N'
      rw [← hd] at ht
      by_cases hx : x = 0
      · subst hx
        obtain ⟨j, g1, g2, g3, g4⟩ := Lx.glue_step ts hplt hk ht
        dsimp only at g1 g2 g3 g4
        have htlen := Lx.tok_len (s := s.drop p) (by rw [ht])
        rw [ht, hd] at htlen
        dsimp only at htlen
        have hTx := T_size tx
        have hcut := fun w => run_T_rest (c :: r) .i64 (tx.length : Int) tx.length rfl htlen.2 w
        have hpd := Lx.pos_drop s (p + tx.length)
        have hdd : (c :: r).drop tx.length = s.drop (p + tx.length) := by rw [← hd, List.drop_drop]
        rw [hdd] at hcut
        have P := fun w => pass_any (s.drop (p + tx.length)) w (by rw [List.length_drop]; omega)
        rw [← hpd] at P
        have HG2 := Lib.hid (HG.out.trans g1)
        have HT := Lib.hid ht
        generalize Lx.pos s (p + tx.length) = q2 at *
        generalize s.drop (p + tx.length) = l2 at *
        generalize (c :: r : List UInt8) = l at *
        replace N := Lib.hid N; replace P := Lib.hid P
        have hpl : (s.length : Int) - (l.length : Int) = (p : Int) := by omega
        have HPL := Lib.hid hpl
        have HLEN := Lib.hid hlen
        have hll : l.length ≤ s.length := by omega
        clear hlen hpl hpd hdd g1 ht hd HG
        go_wp2_with fail
        refine (N.out).mono ?_
        rintro e w2 ⟨rfl, b2⟩
        have d2 := below_step bb b2 (Nat.le_refl _)
        have os2 := os.below b2
        clear N
        have hts1 : (ts.length + 1) * 40 ≤ 140737488355328 := by omega
        have hts2 : ts.length + 1 ≤ 9223372036854775807 := by omega
        have d3 := d2.alloc d2.size (.cells #[.int .i64 kd, .string (T tx), .int .i64 n, .int .i64 ((s.length : Int) - (l.length : Int))] 56)
        have os3 := os2.below (alloc_one w2 (.cells #[.int .i64 kd, .string (T tx), .int .i64 n, .int .i64 ((s.length : Int) - (l.length : Int))] 56))
        have K3 := Blk.new w2 56 #[.int .i64 kd, .string (T tx), .int .i64 n, .int .i64 ((s.length : Int) - (l.length : Int))]
        have hlt2 := os2.lt
        have HLT2 := Lib.hid hlt2
        clear os2 os hlt2
        go_wp2_with (at_builtin; refine wpList_apps ettk (fun _ => TkR) rfl (.tmp 33) (.tmp 35) rfl rfl rfl (by simp) w.heap.size os3 ⟨kd, tx, n, p⟩ (tkR_mk HPL.out) rfl (tok_oneCell _ _ _ _) hts1 hts2 d3.size (fun _ _ _ _ _ _ _ _ _ h => h) ?_; intro A3 c3 w3 os4 b4 g4 _; have K4 := (K3.grown g4 (fun e => by have := (HLT2.out _ e.symm).2; omega)).four; have d4 := d2.trans ((alloc_one w2 (.cells #[.int .i64 kd, .string (T tx), .int .i64 n, .int .i64 ((s.length : Int) - (l.length : Int))] 56)).mono d2.size |>.trans b4))
        refine (P.out _).mono ?_
        rintro e w5 ⟨rfl, b5⟩
        have d5 := below_step d4 b5 (Nat.le_refl _)
        have os5 := OTk.below os4 b5
        go_wp2_with fail
        go_roundw
        case rel => exact ⟨j, q2, ts ++ [⟨kd, tx, n, p⟩], A3, c3, by rw [List.length_append]; rfl, rfl, g3, g2, by rw [List.length_append]; simp; omega, HG2, by rw [List.length_append]; exact os5, d5⟩
        case measure =>
          have := HLEN.out
          simp [strLen, T_size]
          omega
      · have HE := Lib.hid (HG.out.trans (Lx.glue_bad ts hplt hk ht hx))
        have hx1 : (x != 0) = true := by simpa using hx
        have HPL : Hid ((s.length : Int) - ((c :: r).length : Int) = (p : Int)) := Lib.hid (by omega)
        have hll : (c :: r).length ≤ s.length := by omega
        have hlv : s.length - (c :: r).length < s.length - 0 := by omega
        clear hlv hlen
        generalize (c :: r : List UInt8) = l at *
        replace N := Lib.hid N
        clear ht hd HG hx
        go_wp2_with fail
        refine (N.out).mono ?_
        rintro e w2 ⟨rfl, b2⟩
        have d2 := below_step bb b2 (Nat.le_refl _)
        clear N
        go_wp2_with fail
        go_ret3
        exact scan_none HE.out HPL.out (d2.alloc d2.size _)
end Go.Proofs.YtmolmpgampmolaaGreat
/-
  Layer 16, plain laws: tokens with more behind them, alone, at their places, of two texts.
  Conditions: none.
-/
namespace Go.Proofs.YtmolmpgampmolaaGreat.Lx
set_option linter.unusedVariables false
set_option linter.unusedSimpArgs false
open Ty (isD parN)
/-- A byte between tokens. -/
def Sep (x : UInt8) : Prop := x = 10 ∨ x = 32 ∨ x = 33
theorem tw_app {p : UInt8 → Bool} {x : UInt8} (h : p x = false) (b : List UInt8) : ∀ r : List UInt8, (r ++ x :: b).takeWhile p = r.takeWhile p
  | [] => by simp [h]
  | c :: r => by
    rw [List.cons_append, List.takeWhile_cons, List.takeWhile_cons, tw_app h b r]
theorem fst_app {p : UInt8 → Bool} {x : UInt8} (h : p x = false) (b r : List UInt8) : fst p (r ++ x :: b) = fst p r := by
  cases r with
  | nil => simp [fst, h]
  | cons c r => rfl
theorem sep_no {x : UInt8} (h : Sep x) : isL x = false ∧ isD x = false ∧ isH x = false ∧ inW x = false ∧ (x == 120) = false ∧ (x == 46) = false := by
  rcases h with rfl | rfl | rfl <;> decide
theorem qlen_app : ∀ (m : Bool) (r y : List UInt8) {k : Nat}, qlen m r = some k → qlen m (r ++ y) = some k
  | m, [], y, k, h => by cases m <;> cases h
  | true, c :: r, y, k, h => by
    rw [qlen] at h
    cases hq : qlen false r with
    | none => rw [hq] at h; cases h
    | some j => rw [hq] at h; rw [List.cons_append, qlen, qlen_app false r y hq]; exact h
  | false, c :: r, y, k, h => by
    rw [qlen] at h
    rw [List.cons_append, qlen]
    split at h
    · rename_i h1
      rw [if_pos h1]
      cases hq : qlen true r with
      | none => rw [hq] at h; cases h
      | some j => rw [hq] at h; rw [qlen_app true r y hq]; exact h
    · rename_i h1
      rw [if_neg h1]
      split at h
      · rename_i h2; rw [if_pos h2]; exact h
      · rename_i h2
        rw [if_neg h2]
        cases hq : qlen false r with
        | none => rw [hq] at h; cases h
        | some j => rw [hq] at h; rw [qlen_app false r y hq]; exact h
theorem qlen_take : ∀ (m : Bool) (r : List UInt8) {k : Nat}, qlen m r = some k → qlen m (r.take k) = some k
  | m, [], k, h => by cases m <;> cases h
  | true, c :: r, k, h => by
    rw [qlen] at h
    cases hq : qlen false r with
    | none => rw [hq] at h; cases h
    | some j =>
      rw [hq] at h
      cases h
      show qlen true (c :: r.take j) = _
      rw [qlen, qlen_take false r hq]
      rfl
  | false, c :: r, k, h => by
    rw [qlen] at h
    split at h
    · rename_i h1
      cases hq : qlen true r with
      | none => rw [hq] at h; cases h
      | some j =>
        rw [hq] at h
        cases h
        show qlen false (c :: r.take j) = _
        rw [qlen, if_pos h1, qlen_take true r hq]
        rfl
    · rename_i h1
      split at h
      · rename_i h2
        cases h
        rw [List.take_succ_cons, qlen, if_neg h1, if_pos h2]
      · rename_i h2
        cases hq : qlen false r with
        | none => rw [hq] at h; cases h
        | some j =>
          rw [hq] at h
          cases h
          show qlen false (c :: r.take j) = _
          rw [qlen, if_neg h1, if_neg h2, qlen_take false r hq]
          rfl
theorem tokX_app {c x : UInt8} (h : Sep x) (r b : List UInt8) : tokX c (r ++ x :: b) = tokX c r := by
  obtain ⟨h1, h2, h3, h4, h5, h6⟩ := sep_no h
  unfold tokX
  cases r with
  | nil => rw [show fst (· == 120) ([] ++ x :: b) = (x == 120) from rfl, h5]; simp [fst]
  | cons a q =>
    rw [fst_app (p := (· == 120)) (by exact h5)]
    rw [show (a :: q ++ x :: b).tail = q ++ x :: b from rfl, fst_app h3]
    rfl
theorem tokC_app {c x : UInt8} (h : Sep x) (r b : List UInt8) (hok : (tokC c r).2 = 0 ∨ c ≠ 34) : tokC c (r ++ x :: b) = tokC c r := by
  obtain ⟨h1, h2, h3, h4, h5, h6⟩ := sep_no h
  have hX := tokX_app (c := c) h r b
  have hD : tokD c (r ++ x :: b) = tokD c r := by unfold tokD; rw [fst_app h2]
  unfold tokC at hok ⊢
  rw [hX, hD, tw_app h4, tw_app h2, tw_app h3, fst_app (p := (· == 46)) (by exact h6)]
  by_cases hl : isL c = true
  · rw [if_pos hl, if_pos hl]
  rw [if_neg hl, if_neg hl]
  rw [if_neg hl] at hok
  by_cases hx : tokX c r = true
  · obtain ⟨rfl, q, rfl, hq⟩ := tokX_head hx
    rw [show (120 :: q ++ x :: b).tail = q ++ x :: b from rfl, tw_app h3, show (120 :: q).tail = q from rfl, if_pos hx, if_pos hx]
  rw [if_neg hx, if_neg hx]
  rw [if_neg hx] at hok
  by_cases hd : tokD c r = true
  · rw [if_pos hd, if_pos hd]
  rw [if_neg hd, if_neg hd]
  rw [if_neg hd] at hok
  by_cases hc : c = 34
  · rw [if_pos hc, if_pos hc]
    rw [if_pos hc] at hok
    cases hq : qlen false r with
    | none =>
      rw [hq] at hok
      rcases hok with hok | hok
      · exact absurd (show (12 : Int) = 0 from hok) (by decide)
      · exact absurd hc hok
    | some k =>
      rw [qlen_app false r _ hq]
      dsimp only
      rw [List.take_append_of_le_length (qlen_le false r hq).2]
  rw [if_neg hc, if_neg hc]
theorem tok_app {x : UInt8} (h : Sep x) {s : List UInt8} (b : List UInt8) (hs : s ≠ []) (hok : (tok s).2 = 0 ∨ s.head? ≠ some 34) : tok (s ++ x :: b) = tok s := by
  cases s with
  | nil => exact absurd rfl hs
  | cons c r => exact tokC_app h r b (hok.imp id fun e e2 => e (by rw [e2]; rfl))
theorem tw_idem (p : UInt8 → Bool) : ∀ s : List UInt8, (s.takeWhile p).takeWhile p = s.takeWhile p
  | [] => rfl
  | c :: r => by
    rw [List.takeWhile_cons]
    split
    · rename_i h; rw [List.takeWhile_cons, if_pos h, tw_idem p r]
    · rfl
theorem fst_tw {p q : UInt8 → Bool} (h : ∀ c, q c = true → p c = false) (s : List UInt8) : fst p (s.takeWhile q) = false := by
  cases s with
  | nil => rfl
  | cons c r =>
    rw [List.takeWhile_cons]
    split
    · rename_i hq; exact h c hq
    · rfl
theorem fst_same (p : UInt8 → Bool) (s : List UInt8) : fst p (s.takeWhile p) = fst p s := by
  cases s with
  | nil => rfl
  | cons c r =>
    rw [List.takeWhile_cons]
    split
    · rfl
    · rename_i h; simp only [fst]; simpa using h
theorem digit_x : ∀ c : UInt8, isD c = true → (c == 120) = false := by
  intro c h
  unfold isD at h
  rw [beq_eq_false_iff_ne]
  intro e
  subst e
  exact absurd h (by decide)
theorem mark_no {c : UInt8} (h : mark c = true) : isL c = false ∧ isD c = false ∧ c ≠ 48 ∧ c ≠ 45 ∧ c ≠ 34 ∧ c ≠ 35 := by
  unfold mark at h
  simp only [Bool.or_eq_true, beq_iff_eq] at h
  rcases h with (((rfl | rfl) | rfl) | rfl) | rfl <;> decide
/-- A token's text alone is that token. -/
theorem tok_own {s : List UInt8} {t : Tk} (h : tok s = (t, 0)) : tok t.text = (t, 0) := by
  cases s with
  | nil => simp [tok] at h
  | cons c r =>
    rw [show tok (c :: r) = tokC c r from rfl] at h
    unfold tokC at h
    split at h
    · rename_i h1
      cases h
      show tokC c _ = _
      unfold tokC
      rw [if_pos h1, tw_idem]
    · rename_i h1
      split at h
      · rename_i hx
        obtain ⟨rfl, q, rfl, hq⟩ := tokX_head hx
        split at h
        · simp at h
        · rename_i h4
          cases h
          rw [show (120 :: q).tail = q from rfl] at *
          show tokC 48 (120 :: q.takeWhile isH) = _
          unfold tokC
          rw [if_neg (by decide), if_pos (by unfold tokX; rw [show (120 :: q.takeWhile isH).tail = q.takeWhile isH from rfl, fst_same, hq]; rfl),
            show (120 :: q.takeWhile isH).tail = q.takeWhile isH from rfl, tw_idem, if_neg h4]
      · rename_i hx
        split at h
        · rename_i hd
          split at h
          · simp at h
          · rename_i hp
            cases h
            show tokC c _ = _
            unfold tokC
            rw [if_neg h1, if_neg (by
              unfold tokX
              rw [fst_tw (p := (· == 120)) (q := isD) digit_x]
              simp), if_pos (by unfold tokD at hd ⊢; rw [fst_same]; exact hd), tw_idem, if_neg hp]
        · rename_i hd
          split at h
          · rename_i hc
            subst hc
            split at h
            · simp at h
            · rename_i k hq
              cases h
              show tokC 34 _ = _
              unfold tokC
              rw [if_neg (by decide), if_neg (by simp [tokX]), if_neg (by simp [tokD, Ty.isD]), if_pos rfl, qlen_take false r hq]
              dsimp only
              rw [List.take_take, Nat.min_self]
          · rename_i hc
            split at h
            · rename_i h35
              subst h35
              cases h
              show tokC 35 _ = _
              unfold tokC
              rw [if_neg (by decide), if_neg (by simp [tokX]), if_neg (by simp [tokD, Ty.isD]), if_neg (by decide), if_pos rfl, tw_idem]
            · rename_i h35
              split at h
              · rename_i hm
                cases h
                obtain ⟨m1, m2, m3, m4, m5, m6⟩ := mark_no hm
                show tokC c [] = _
                unfold tokC
                rw [if_neg h1, if_neg (by simp [tokX, fst]), if_neg (by simp [tokD, m2, fst]), if_neg hc, if_neg h35, if_pos hm]
              · split at h
                · cases h
                  rfl
                · simp at h
theorem skip_app (b : List UInt8) : ∀ (m : Bool) (s : List UInt8), skip m (s ++ 10 :: b) = if skip m s = [] then skip false b else skip m s ++ 10 :: b
  | true, [] => rfl
  | false, [] => rfl
  | true, c :: r => by
    rw [List.cons_append, skip, skip, skip_app b _ r]
  | false, c :: r => by
    rw [List.cons_append, skip, skip]
    split
    · exact skip_app b _ r
    · split
      · exact skip_app b _ r
      · rw [if_neg (by simp)]; rfl
/-- The tokens of what is left. -/
def Rd : List UInt8 → List Tk → Prop
  | l, [] => l = []
  | l, t :: ts => l ≠ [] ∧ tok l = ({ t with pl := 0 }, 0) ∧ Rd (skip false (l.drop t.text.length)) ts
/-- Tokens, and then a fault at q. -/
def Er : List UInt8 → List Tk → List UInt8 → Int → Prop
  | l, [], q, e => l = q ∧ q ≠ [] ∧ (tok q).2 = e ∧ e ≠ 0
  | l, t :: ts, q, e => l ≠ [] ∧ tok l = ({ t with pl := 0 }, 0) ∧ Er (skip false (l.drop t.text.length)) ts q e
/-- Tokens at their places, from a place on. -/
def Pl (s : List UInt8) : Nat → List Tk → Prop
  | p, [] => p ≤ s.length ∧ skip false (s.drop p) = []
  | p, t :: ts => p ≤ t.pl ∧ t.pl < s.length ∧ s.drop t.pl = skip false (s.drop p) ∧ tok (s.drop t.pl) = ({ t with pl := 0 }, 0) ∧ Pl s (t.pl + t.text.length) ts
theorem pl_rd {s : List UInt8} : ∀ {ts : List Tk} {p : Nat}, Pl s p ts → Rd (skip false (s.drop p)) ts
  | [], p, h => h.2
  | t :: ts, p, ⟨h1, h2, h3, h4, h5⟩ => by
    have hn : s.drop t.pl ≠ [] := by intro e; have := congrArg List.length e; rw [List.length_drop] at this; simp at this; omega
    refine ⟨by rw [← h3]; exact hn, by rw [← h3]; exact h4, ?_⟩
    rw [← h3, List.drop_drop]
    exact pl_rd h5
theorem tk_text {a b : Tk} (h : ({ a with pl := 0 } : Tk) = { b with pl := 0 }) : a.text = b.text := by have := congrArg Tk.text h; exact this
theorem tk_pl (t : Tk) (h : t.pl = 0) : { t with pl := 0 } = t := by cases t; cases h; rfl
theorem tok_pl (s : List UInt8) : (tok s).1.pl = 0 := by
  cases s with
  | nil => rfl
  | cons c r =>
    rw [show tok (c :: r) = tokC c r from rfl]
    unfold tokC
    repeat' split
    all_goals rfl
theorem scanF_all {s : List UInt8} : ∀ (k p q : Nat), s.length < p + k → pos s q = p → q ≤ s.length →
    (∃ ts, scanF k s p = (ts, 0, 0) ∧ Pl s q ts) ∨ (∃ ts e r, scanF k s p = ([], e, s.length - r.length) ∧ e ≠ 0 ∧ Er (s.drop p) ts r e ∧ r <:+ s)
  | 0, p, q, hk, hp, hq => by have := pos_le s q; omega
  | k + 1, p, q, hk, hp, hq => by
    have hd := pos_drop s q
    have hge := pos_ge s q hq
    rw [hp] at hd hge
    rw [scanF]
    split
    · rename_i h
      rw [List.drop_eq_nil_of_le h] at hd
      exact .inl ⟨[], rfl, hq, hd.symm⟩
    · rename_i h
      have hne : s.drop p ≠ [] := by intro e; have := congrArg List.length e; rw [List.length_drop] at this; simp at this; omega
      split
      · rename_i he
        refine .inr ⟨[], _, s.drop p, ?_, he, ⟨rfl, hne, rfl, he⟩, List.drop_suffix _ _⟩
        rw [List.length_drop, show s.length - (s.length - p) = p by omega]
      · rename_i he
        have he0 : (tok (s.drop p)).2 = 0 := by simpa using he
        have hln := tok_len he0
        have hpl := tok_pl (s.drop p)
        have htk : tok (s.drop p) = ((tok (s.drop p)).1, 0) := by rw [← he0]
        rw [List.length_drop] at hln
        have hge2 := pos_ge s (p + (tok (s.drop p)).1.text.length) (by omega)
        rcases scanF_all (s := s) k (pos s (p + (tok (s.drop p)).1.text.length)) (p + (tok (s.drop p)).1.text.length) (by omega) rfl (by omega) with ⟨ts, h1, h2⟩ | ⟨ts, e, r, h1, h2, h3, h4⟩
        · rw [h1, if_neg (by simp)]
          refine .inl ⟨_, rfl, hge, (show p < s.length by omega), hd, ?_, h2⟩
          show tok (s.drop p) = ({ (tok (s.drop p)).1 with pl := 0 }, 0)
          rw [tk_pl _ hpl]
          exact htk
        · rw [h1, if_pos h2]
          refine .inr ⟨{ (tok (s.drop p)).1 with pl := p } :: ts, e, r, rfl, h2, ⟨hne, ?_, ?_⟩, h4⟩
          · show tok (s.drop p) = ({ (tok (s.drop p)).1 with pl := 0 }, 0)
            rw [tk_pl _ hpl]
            exact htk
          · rw [pos_drop, ← List.drop_drop] at h3
            exact h3
theorem scanS_all {s : List UInt8} (h : s.length ≤ 8192) :
    (∃ ts, scanS s = (ts, 0, 0) ∧ Pl s 0 ts ∧ Rd (skip false s) ts) ∨ (∃ ts e r, scanS s = ([], e, s.length - r.length) ∧ e ≠ 0 ∧ Er (skip false s) ts r e ∧ r <:+ s) := by
  unfold scanS
  rw [if_neg (by omega)]
  have hd := pos_drop s 0
  rcases scanF_all (s := s) (s.length + 1) (pos s 0) 0 (by omega) rfl (by omega) with ⟨ts, h1, h2⟩ | ⟨ts, e, r, h1, h2, h3, h4⟩
  · exact .inl ⟨ts, h1, h2, pl_rd h2⟩
  · refine .inr ⟨ts, e, r, h1, h2, ?_, h4⟩
    rw [hd] at h3
    exact h3
theorem like_iff {a b : Tk} : like a b = true ↔ { a with pl := 0 } = { b with pl := 0 } := by
  cases a; cases b
  simp [like, and_assoc]
theorem rd_same : ∀ {ts ts' : List Tk} {l : List UInt8}, Rd l ts → Rd l ts' → sameL false ts ts' = true
  | [], [], _, _, _ => rfl
  | [], t :: ts, l, h, h' => absurd h h'.1
  | t :: ts, [], l, h, h' => absurd h' h.1
  | t :: ts, t' :: ts', l, ⟨h1, h2, h3⟩, ⟨h1', h2', h3'⟩ => by
    rw [h2] at h2'
    simp only [Prod.mk.injEq, and_true] at h2'
    have e : t.text = t'.text := by
      have := tk_text h2'
      exact this
    rw [← e] at h3'
    simp only [sameL, Bool.not_false, Bool.true_or, Bool.and_true, Bool.and_eq_true]
    exact ⟨like_iff.2 h2', rd_same h3 h3'⟩
theorem rd_er : ∀ {ts ts' : List Tk} {l q : List UInt8} {e : Int}, Rd l ts → Er l ts' q e → False
  | [], [], l, q, e, h, ⟨h1, h2, _⟩ => h2 (h1 ▸ h)
  | [], t :: ts, l, q, e, h, h' => h'.1 h
  | t :: ts, [], l, q, e, ⟨h1, h2, h3⟩, ⟨k1, k2, k3, k4⟩ => by
    subst k1
    rw [h2] at k3
    exact k4 k3.symm
  | t :: ts, t' :: ts', l, q, e, ⟨h1, h2, h3⟩, ⟨h1', h2', h3'⟩ => by
    rw [h2] at h2'
    simp only [Prod.mk.injEq, and_true] at h2'
    have e : t.text = t'.text := tk_text h2'
    rw [← e] at h3'
    exact rd_er h3 h3'
theorem er_er : ∀ {ts ts' : List Tk} {l q q' : List UInt8} {e e' : Int}, Er l ts q e → Er l ts' q' e' → q = q' ∧ e = e'
  | [], [], l, q, q', e, e', ⟨h1, h2, h3, h4⟩, ⟨k1, k2, k3, k4⟩ => by subst h1; subst k1; exact ⟨rfl, h3.symm.trans k3⟩
  | [], t :: ts, l, q, q', e, e', ⟨h1, h2, h3, h4⟩, ⟨k1, k2, k3⟩ => by
    subst h1
    rw [k2] at h3
    exact absurd h3.symm h4
  | t :: ts, [], l, q, q', e, e', ⟨k1, k2, k3⟩, ⟨h1, h2, h3, h4⟩ => by
    subst h1
    rw [k2] at h3
    exact absurd h3.symm h4
  | t :: ts, t' :: ts', l, q, q', e, e', ⟨h1, h2, h3⟩, ⟨h1', h2', h3'⟩ => by
    rw [h2] at h2'
    simp only [Prod.mk.injEq, and_true] at h2'
    have e : t.text = t'.text := tk_text h2'
    rw [← e] at h3'
    exact er_er h3 h3'
/-- What is read of a text whose tokens are known. -/
theorem scan_rd {s : List UInt8} (h : s.length ≤ 8192) {ts : List Tk} (hr : Rd (skip false s) ts) : ∃ ts', scanS s = (ts', 0, 0) ∧ sameL false ts ts' = true := by
  rcases scanS_all h with ⟨ts', h1, _, h2⟩ | ⟨ts', e, r, _, _, h2, _⟩
  · exact ⟨ts', h1, rd_same hr h2⟩
  · exact (rd_er hr h2).elim
theorem scan_er {s : List UInt8} (h : s.length ≤ 8192) {ts : List Tk} {q : List UInt8} {e : Int} (hr : Er (skip false s) ts q e) : scanS s = ([], e, s.length - q.length) := by
  rcases scanS_all h with ⟨ts', h1, _, h2⟩ | ⟨ts', e', r, h1, h0, h2, _⟩
  · exact (rd_er h2 hr).elim
  · obtain ⟨rfl, rfl⟩ := er_er hr h2
    exact h1
/-! ### what is written of tokens -/
theorem rd_own {l : List UInt8} {t : Tk} {ts : List Tk} (h : Rd l (t :: ts)) : tok t.text = ({ t with pl := 0 }, 0) := tok_own h.2.1
theorem tok_start {l : List UInt8} (h : (tok l).2 = 0) : ∃ c r, l = c :: r ∧ blank c = false ∧ c ≠ 33 := by
  cases l with
  | nil => cases h
  | cons c r =>
    refine ⟨c, r, rfl, ?_⟩
    by_cases hb : blank c = true ∨ c = 33
    · exfalso
      have hc : c = 32 ∨ c = 9 ∨ c = 10 ∨ c = 13 ∨ c = 33 := by
        unfold blank at hb
        simp only [Bool.or_eq_true, beq_iff_eq] at hb
        rcases hb with ((h | h) | h) | h
        · rcases h with h | h
          · exact .inl h
          · exact .inr (.inl h)
        all_goals simp_all
      rw [show tok (c :: r) = tokC c r from rfl] at h
      have hno : ∀ x : UInt8, (x = 32 ∨ x = 9 ∨ x = 10 ∨ x = 13 ∨ x = 33) → isL x = false ∧ (x == 48) = false ∧ isD x = false ∧ (x == 45) = false ∧ x ≠ 34 ∧ x ≠ 35 ∧ mark x = false ∧ x ≠ 46 := by
        intro x hx
        rcases hx with rfl | rfl | rfl | rfl | rfl <;> decide
      obtain ⟨n1, n2, n3, n4, n5, n6, n7, n8⟩ := hno c hc
      unfold tokC at h
      rw [if_neg (by rw [n1]; decide), if_neg (by unfold tokX; rw [n2]; simp), if_neg (by unfold tokD; rw [n3, n4]; simp), if_neg n5, if_neg n6, if_neg (by rw [n7]; decide), if_neg (fun h => n8 h.1)] at h
      cases h
    · exact ⟨by simpa using fun h => hb (.inl h), fun h => hb (.inr h)⟩
theorem skip_tok {l b : List UInt8} (h : (tok l).2 = 0) : skip false (l ++ b) = l ++ b := by
  obtain ⟨c, r, rfl, h1, h2⟩ := tok_start h
  exact skip_stop h1 h2
theorem text_cons (t : Tk) (u : Tk) (r : List Tk) : textS (t :: u :: r) = t.text ++ 32 :: textS (u :: r) := rfl
theorem rd_text : ∀ {ts : List Tk} {l : List UInt8}, Rd l ts → Rd (textS ts) ts ∧ skip false (textS ts) = textS ts
  | [], l, h => ⟨rfl, rfl⟩
  | [t], l, h => by
    have ho := rd_own h
    have h0 : (tok t.text).2 = 0 := by rw [ho]
    refine ⟨⟨?_, ho, ?_⟩, ?_⟩
    · intro e
      rw [show t.text = [] from e] at h0
      cases h0
    · show skip false (t.text.drop t.text.length) = []
      rw [List.drop_length]; rfl
    · have := skip_tok (b := []) h0
      rwa [List.append_nil] at this
  | t :: u :: r, l, h => by
    have ho := rd_own h
    have h0 : (tok t.text).2 = 0 := by rw [ho]
    obtain ⟨i1, i2⟩ := rd_text h.2.2
    have hne : t.text ≠ [] := by
      intro e
      rw [e] at h0
      cases h0
    rw [text_cons]
    refine ⟨⟨by simp, ?_, ?_⟩, skip_tok h0⟩
    · rw [tok_app (.inr (.inl rfl)) _ hne (.inl h0)]
      exact ho
    · rw [List.drop_left' rfl]
      rw [skip, if_pos (by decide), i2]
      exact i1
theorem rd_len : ∀ {ts : List Tk} {l : List UInt8}, Rd l ts → (textS ts).length ≤ 2 * l.length
  | [], l, h => by simp [textS]
  | [t], l, h => by
    have := tok_len (s := l) (by rw [h.2.1])
    rw [h.2.1] at this
    show t.text.length ≤ _
    dsimp only at this
    omega
  | t :: u :: r, l, h => by
    have h1 := tok_len (s := l) (by rw [h.2.1])
    rw [h.2.1] at h1
    dsimp only at h1
    have h2 := rd_len h.2.2
    have h3 := skip_len false (l.drop t.text.length)
    rw [List.length_drop] at h3
    rw [text_cons, List.length_append, List.length_cons]
    omega
theorem same_text : ∀ {ts ts' : List Tk}, sameL false ts ts' = true → textS ts = textS ts'
  | [], [], _ => rfl
  | [], _ :: _, h => by cases h
  | _ :: _, [], h => by cases h
  | [t], [t'], h => by
    simp only [sameL, Bool.not_false, Bool.true_or, Bool.and_true] at h
    exact tk_text (like_iff.1 h)
  | [t], t' :: u' :: r', h => by simp [sameL] at h
  | t :: u :: r, [t'], h => by simp [sameL] at h
  | t :: u :: r, t' :: u' :: r', h => by
    rw [sameL] at h
    simp only [Bool.not_false, Bool.true_or, Bool.and_true, Bool.and_eq_true] at h
    rw [text_cons, text_cons, same_text h.2]
    have : t.text = t'.text := tk_text (like_iff.1 h.1)
    rw [this]
/-- What is written of a text's tokens has the same tokens. -/
theorem scan_back {s : List UInt8} (h : s.length ≤ 4000) {ts : List Tk} (hs : scanS s = (ts, 0, 0)) :
    (textS ts).length ≤ 8000 ∧ ∃ ts', scanS (textS ts) = (ts', 0, 0) ∧ sameL false ts ts' = true ∧ textS ts' = textS ts := by
  rcases scanS_all (s := s) (by omega) with ⟨ts', h1, _, h2⟩ | ⟨_, e, r, h1, h0, _, _⟩
  · rw [hs] at h1
    cases h1
    obtain ⟨i1, i2⟩ := rd_text h2
    have hl := rd_len h2
    have hl2 := skip_len false s
    refine ⟨by omega, ?_⟩
    obtain ⟨ts'', k1, k2⟩ := scan_rd (s := textS ts) (ts := ts) (by omega) (by rw [i2]; exact i1)
    exact ⟨ts'', k1, k2, (same_text k2).symm⟩
  · rw [hs] at h1
    simp only [Prod.mk.injEq] at h1
    exact absurd h1.2.1.symm h0
/-! ### two texts -/
def both (l b : List UInt8) : List UInt8 := if l = [] then skip false b else l ++ 10 :: b
theorem skip_both (s b : List UInt8) : skip false (s ++ 10 :: b) = both (skip false s) b := skip_app b false s
theorem both_drop {l b : List UInt8} {k : Nat} (h : l ≠ []) (hk : k ≤ l.length) : skip false ((both l b).drop k) = both (skip false (l.drop k)) b := by
  rw [both, if_neg h, List.drop_append_of_le_length hk, skip_both]
theorem both_tok {l b : List UInt8} (h : l ≠ []) (hok : (tok l).2 = 0 ∨ l.head? ≠ some 34) : both l b ≠ [] ∧ tok (both l b) = tok l := by
  rw [both, if_neg h]
  exact ⟨by simp, tok_app (.inl rfl) b h hok⟩
theorem rd_step {l : List UInt8} {t : Tk} {ts : List Tk} (h : Rd l (t :: ts)) : (tok l).2 = 0 ∧ t.text.length ≤ l.length := by
  have h0 : (tok l).2 = 0 := by rw [h.2.1]
  have := tok_len h0
  rw [h.2.1] at this
  exact ⟨h0, this.2⟩
theorem rd_both {b : List UInt8} {us : List Tk} (hb : Rd (skip false b) us) : ∀ {ts : List Tk} {l : List UInt8}, Rd l ts → Rd (both l b) (ts ++ us)
  | [], l, h => by rw [show l = [] from h]; exact hb
  | t :: ts, l, h => by
    obtain ⟨h0, hk⟩ := rd_step h
    obtain ⟨e1, e2⟩ := both_tok (b := b) h.1 (.inl h0)
    exact ⟨e1, by rw [e2]; exact h.2.1, by rw [both_drop h.1 hk]; exact rd_both hb h.2.2⟩
theorem er_both2 {b q : List UInt8} {us : List Tk} {e : Int} (hb : Er (skip false b) us q e) : ∀ {ts : List Tk} {l : List UInt8}, Rd l ts → Er (both l b) (ts ++ us) q e
  | [], l, h => by rw [show l = [] from h]; exact hb
  | t :: ts, l, h => by
    obtain ⟨h0, hk⟩ := rd_step h
    obtain ⟨e1, e2⟩ := both_tok (b := b) h.1 (.inl h0)
    exact ⟨e1, by rw [e2]; exact h.2.1, by rw [both_drop h.1 hk]; exact er_both2 hb h.2.2⟩
theorem er_both1 {b q : List UInt8} {e : Int} (hq : q.head? ≠ some 34) : ∀ {ts : List Tk} {l : List UInt8}, Er l ts q e → Er (both l b) ts (q ++ 10 :: b) e
  | [], l, ⟨h1, h2, h3, h4⟩ => by
    subst h1
    obtain ⟨e1, e2⟩ := both_tok (b := b) h2 (.inr hq)
    refine ⟨by rw [both, if_neg h2], by simp, ?_, h4⟩
    rw [both, if_neg h2] at e2
    rw [e2, h3]
  | t :: ts, l, ⟨h1, h2, h3⟩ => by
    have h0 : (tok l).2 = 0 := by rw [h2]
    have hk := (tok_len h0).2
    rw [h2] at hk
    obtain ⟨e1, e2⟩ := both_tok (b := b) h1 (.inl h0)
    exact ⟨e1, by rw [e2]; exact h2, by rw [both_drop h1 hk]; exact er_both1 hq h3⟩
theorem er_ne : ∀ {ts : List Tk} {l q : List UInt8} {e : Int}, Er l ts q e → q ≠ []
  | [], _, _, _, h => h.2.1
  | _ :: _, _, _, _, h => er_ne h.2.2
/-- The tokens of two texts. -/
theorem scan_two {a b : List UInt8} (ha : a.length ≤ 4000) (hb : b.length ≤ 4000) {ts us : List Tk} {e f : Int} {p q : Nat} (h1 : scanS a = (ts, e, p)) (h2 : scanS b = (us, f, q)) :
    (e = 0 → f = 0 → ∃ vs, scanS (a ++ 10 :: b) = (vs, 0, 0) ∧ sameL false vs (ts ++ us) = true) ∧
    (e = 0 → f ≠ 0 → scanS (a ++ 10 :: b) = ([], f, q + a.length + 1)) ∧
    (e ≠ 0 → p < a.length ∧ (a.getD p 0 ≠ 34 → scanS (a ++ 10 :: b) = ([], e, p))) := by
  have hlen : (a ++ 10 :: b).length ≤ 8192 := by simp; omega
  have hsk := skip_both a b
  have hA := scanS_all (s := a) (by omega)
  have hB := scanS_all (s := b) (by omega)
  refine ⟨fun he hf => ?_, fun he hf => ?_, fun he => ?_⟩
  · subst he hf
    rcases hA with ⟨ts', k1, _, k2⟩ | ⟨_, e', r, k1, k0, _, _⟩
    · rw [h1] at k1; cases k1
      rcases hB with ⟨us', l1, _, l2⟩ | ⟨_, e', r, l1, l0, _, _⟩
      · rw [h2] at l1; cases l1
        rcases scanS_all hlen with ⟨vs, m1, _, m2⟩ | ⟨vs, e', r, m1, m0, m2, _⟩
        · refine ⟨vs, m1, rd_same m2 ?_⟩
          rw [hsk]
          exact rd_both l2 k2
        · rw [hsk] at m2
          exact (rd_er (rd_both l2 k2) m2).elim
      · rw [h2] at l1; simp only [Prod.mk.injEq] at l1; exact absurd l1.2.1.symm l0
    · rw [h1] at k1; simp only [Prod.mk.injEq] at k1; exact absurd k1.2.1.symm k0
  · subst he
    rcases hA with ⟨ts', k1, _, k2⟩ | ⟨_, e', r, k1, k0, _, _⟩
    · rw [h1] at k1; cases k1
      rcases hB with ⟨us', l1, _, l2⟩ | ⟨us', e', r, l1, l0, l2, l3⟩
      · rw [h2] at l1; simp only [Prod.mk.injEq] at l1; exact absurd l1.2.1 hf
      · rw [h2] at l1; simp only [Prod.mk.injEq] at l1
        obtain ⟨_, rfl, rfl⟩ := l1
        rw [scan_er hlen (ts := ts ++ us') (q := r) (e := f) (by rw [hsk]; exact er_both2 l2 k2)]
        have := l3.length_le
        simp only [List.length_append, List.length_cons, Prod.mk.injEq, true_and]
        omega
    · rw [h1] at k1; simp only [Prod.mk.injEq] at k1; exact absurd k1.2.1.symm k0
  · rcases hA with ⟨ts', k1, _, k2⟩ | ⟨ts', e', r, k1, k0, k2, k3⟩
    · rw [h1] at k1; simp only [Prod.mk.injEq] at k1; exact absurd k1.2.1 he
    · rw [h1] at k1; simp only [Prod.mk.injEq] at k1
      obtain ⟨_, rfl, rfl⟩ := k1
      have hrn := List.length_pos_iff.2 (er_ne k2)
      have hrl := k3.length_le
      refine ⟨by omega, fun hg => ?_⟩
      have hd := suffix_drop k3
      have hh : r.head? ≠ some 34 := by
        intro hh
        apply hg
        rw [List.getD_eq_getElem?_getD, ← List.head?_drop, hd, hh]
        rfl
      rw [scan_er hlen (ts := ts') (q := r ++ 10 :: b) (e := e) (by rw [hsk]; exact er_both1 hh k2)]
      simp only [List.length_append, List.length_cons, Prod.mk.injEq, true_and]
      omega
end Go.Proofs.YtmolmpgampmolaaGreat.Lx
