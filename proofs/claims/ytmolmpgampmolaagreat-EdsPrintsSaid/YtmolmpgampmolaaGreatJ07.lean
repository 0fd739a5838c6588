/-
  Texts joined: EdsRow, EdsRd.
  Conditions: none.
-/
import Derived.Test.YtmolmpgampmolaaGreatJ03
import Derived.Test.YtmolmpgampmolaaGreatJ04
import Derived.Test.YtmolmpgampmolaaGreatJ06
import Derived.StillTailTactics
/-
  Walks: next, take, fail, need, mark of layer 17.
  Conditions: none.
-/
namespace Go.Proofs.YtmolmpgampmolaaGreat
set_option linter.unusedVariables false
set_option linter.unusedSimpArgs false
open Go.RowKit Go.Sort
/-- A token's cells as a value. -/
def tkW (t : Lx.Tk) : Value := .agg #[.int .i64 t.kind, .string (T t.text), .int .i64 t.n, .int .i64 (t.pl : Int)]
/-- A reader, in memory: its tokens lie below it. -/
structure RdM (w : World) (g : Nat) (A : Option Addr) (n c : Nat) (ts : List Lx.Tk) (x : List UInt8) (s : Ed.R) : Prop where
  blk : Blk w g 46 #[.slice A n c, .int .i64 (s.pos : Int), .int .i64 s.err, .string (T x)]
  tok : RTk w g A n c ts
  le : s.pos ≤ n
theorem RTk.mvf {G : Nat → Prop} {w w' : World} {B n c : Nat} {A : Option Addr} {ts : List Lx.Tk} (h : RTk w B A n c ts) (hm : Mv G w w') (hB : B ≤ w.heap.size) (hG : ∀ q, G q → B ≤ q) : RTk w' B A n c ts := h.below (hm.below hB hG)
section
variable {w w' : World} {g : Nat} {A : Option Addr} {n c : Nat} {ts : List Lx.Tk} {x : List UInt8} {s : Ed.R}
theorem RdM.mv {G : Nat → Prop} (h : RdM w g A n c ts x s) (hm : Mv G w w') (hG : ∀ q, G q → g < q) : RdM w' g A n c ts x s := ⟨h.blk.mv hm fun e => Nat.lt_irrefl _ (hG g e), h.tok.mvf hm (Nat.le_of_lt h.blk.lt) fun q e => Nat.le_of_lt (hG q e), h.le⟩
theorem RdM.below (h : RdM w g A n c ts x s) (hb : Below w.heap.size w w') : RdM w' g A n c ts x s := h.mv (Mv.of_new hb fun _ => False) fun _ h => h.elim
theorem RdM.step (h : RdM w g A n c ts x s) (hn : s.pos < n) : RdM (w.setCell ⟨g, 1, none⟩ (.int .i64 ((s.pos : Int) + 1))) g A n c ts x (Ed.stepS s) := by
  refine ⟨?_, h.tok.mvf (Mv.setCell w ⟨g, 1, none⟩ _) (Nat.le_of_lt h.blk.lt) (fun q e => by subst e; exact Nat.le_refl _), hn⟩
  have := h.blk.set_ 1 (.int .i64 ((s.pos : Int) + 1))
  exact this
theorem RdM.fail (h : RdM w g A n c ts x s) (he : s.err = 0) (e : Int) : RdM (w.setCell ⟨g, 2, none⟩ (.int .i64 e)) g A n c ts x (Ed.failS s e) := by
  have h2 : Ed.failS s e = ⟨s.pos, e⟩ := by unfold Ed.failS; rw [if_pos he]
  rw [h2]
  exact ⟨h.blk.set_ 2 (.int .i64 e), h.tok.mvf (Mv.setCell w ⟨g, 2, none⟩ _) (Nat.le_of_lt h.blk.lt) (fun q e => by subst e; exact Nat.le_refl _), h.le⟩
theorem RdM.failn (h : RdM w g A n c ts x s) (he : s.err ≠ 0) (e : Int) : RdM w g A n c ts x (Ed.failS s e) := by
  have h2 : Ed.failS s e = s := by unfold Ed.failS; rw [if_neg he]
  rw [h2]
  exact h
set_option maxRecDepth 100000 in
set_option maxHeartbeats 4000000 in
theorem enext_any (h : RdM w g A n c ts x s) : Calls Tryz.prog 95 #[.pointer (some ⟨g, 0, none⟩)] w fun e w' => e = .returned (.tuple #[tkW ((Ed.nextS ts s).getD Lx.tk0), .bool (Ed.nextS ts s).isSome]) ∧ Below w.heap.size w w' := by
  have F := h.blk.four
  have hl := h.tok.len
  have hle := h.le
  have b0 := alloc_one w (.cells #[.int .i64 0, .string ⟨#[]⟩, .int .i64 0, .int .i64 0] 56)
  have K0 := Blk.new w 56 #[.int .i64 0, .string ⟨#[]⟩, .int .i64 0, .int .i64 0]
  have K4 := (h.below b0).blk.four
  by_cases he : s.err = 0
  case neg =>
    have hn : Ed.nextS ts s = none := by unfold Ed.nextS; rw [if_pos (.inl he)]
    rw [hn]
    have e1 : (s.err != 0) = true := by simpa using he
    have e2 : (s.err == 0) = false := by simpa using he
    have HH := Lib.hid h
    clear h he hn
    go_enter Tryz.func95, Tryz.ntmps95
    go_wp2_with fail
    go_quiet (fail)
    have K1 := K0.drewN nq
    have F1 := K1.four
    have R1 := (K1.store4 (.int .i64 0) (.string ⟨#[]⟩) (.int .i64 0) (.int .i64 0)).four
    have d1 := below_drewN b0 nq
    have d2 := below_set4 d1 (Nat.le_refl w.heap.size) 0 1 2 3 (.int .i64 0) (.string ⟨#[]⟩) (.int .i64 0) (.int .i64 0)
    clear K0 K1
    go_wp2_with fail
    exact bodyPost_ret (v := .tuple #[tkW Lx.tk0, .bool false]) (by simp [results, Tryz.results95, go_sem, R1, tkW, Lx.tk0]; rfl) rfl ⟨rfl, d2⟩
  by_cases hp : s.pos < n
  case neg =>
    have hn : Ed.nextS ts s = none := by unfold Ed.nextS; rw [if_pos (.inr (by omega))]
    rw [hn]
    have hp2 : (n : Int) ≤ (s.pos : Int) := by omega
    rw [he] at F K4
    clear h he hn
    go_enter Tryz.func95, Tryz.ntmps95
    go_wp2_with fail
    go_quiet (fail)
    have K1 := K0.drewN nq
    have F1 := K1.four
    have R1 := (K1.store4 (.int .i64 0) (.string ⟨#[]⟩) (.int .i64 0) (.int .i64 0)).four
    have d1 := below_drewN b0 nq
    have d2 := below_set4 d1 (Nat.le_refl w.heap.size) 0 1 2 3 (.int .i64 0) (.string ⟨#[]⟩) (.int .i64 0) (.int .i64 0)
    clear K0 K1
    go_wp2_with fail
    exact bodyPost_ret (v := .tuple #[tkW Lx.tk0, .bool false]) (by simp [results, Tryz.results95, go_sem, R1, tkW, Lx.tk0]; rfl) rfl ⟨rfl, d2⟩
  have hn : Ed.nextS ts s = some (ts.getD s.pos tkz) := by unfold Ed.nextS; rw [if_neg (by intro h1; rcases h1 with h1 | h1; exact h1 he; omega)]; rfl
  rw [hn]
  have hp2 : (s.pos : Int) < (n : Int) := by omega
  obtain ⟨b, o, rfl, hb, q0, q1, q2, q3⟩ := h.tok.at_ hp
  generalize ts.getD s.pos tkz = t at *
  obtain ⟨tk, tt, tn, tp⟩ := t
  dsimp only at q0 q1 q2 q3
  rw [he] at F K4
  have KG := (h.below b0).blk
  clear h he hn
  go_enter Tryz.func95, Tryz.ntmps95
  go_wp2_with fail
  go_quiet (fail)
  have K1 := K0.drewN nq
  have F1 := K1.four
  have R1 := (K1.store4 (.int .i64 tk) (.string (T tt)) (.int .i64 tn) (.int .i64 (tp : Int))).four
  have d1 := below_drewN b0 nq
  have d2 := below_set4 d1 (Nat.le_refl w.heap.size) 0 1 2 3 (.int .i64 tk) (.string (T tt)) (.int .i64 tn) (.int .i64 (tp : Int))
  go_wp2_with fail
  have d1' := d1.drew
  have K2 : Blk ((w.alloc (.cells #[.int .i64 0, .string ⟨#[]⟩, .int .i64 0, .int .i64 0] 56)).drewN nq).drew w.heap.size 56 #[.int .i64 0, .string ⟨#[]⟩, .int .i64 0, .int .i64 0] := K1.drew
  have F2 := K2.four
  have R2 := (K2.store4 (.int .i64 tk) (.string (T tt)) (.int .i64 tn) (.int .i64 (tp : Int))).four
  have d3 := below_set4 d1.drew (Nat.le_refl w.heap.size) 0 1 2 3 (.int .i64 tk) (.string (T tt)) (.int .i64 tn) (.int .i64 (tp : Int))
  have g0 := cell_regrown F.1.1
  have g1 := cell_regrown F.1.2.1
  have q0' := cell_regrown q0
  have q1' := cell_regrown q1
  have q2' := cell_regrown q2
  have q3' := cell_regrown q3
  clear K0 K1 K2 R1 d2 F1 d1
  refine region_since (w0 := w) (by kernel_rfl) ?_
  refine phase_later (by kernel_rfl) 2 d1' [0, 4, 1, 5, 2, 6, 3, 7, 8, 9] rfl (by kernel_rfl) ?_
  simp only [picks, nth]
  repeat (go_big_quiet_step (fail))
  refine wpQuiet_nil ?_
  refine phase_op 10 1 rfl (by kernel_rfl) (by decide) ?_
  simp only [nth]
  go_wp2_with fail
  refine behind_since d3 ?_
  refine phase_later (by kernel_rfl) 0 d3 [11] rfl (by kernel_rfl) ?_
  simp only [picks, nth]
  repeat (go_big_quiet_step (fail))
  refine wpQuiet_nil ?_
  refine phase_end (by kernel_rfl) ?_
  go_wp2_with fail
  exact bodyPost_ret (v := .tuple #[tkW ⟨tk, tt, tn, tp⟩, .bool true]) (by simp [results, Tryz.results95, go_sem, R2, tkW]) rfl ⟨rfl, d3⟩
theorem take_no {ts : List Lx.Tk} {s : Ed.R} {k : Int} {y : List UInt8} (h : Ed.isS ts s k y = false) : Ed.takeS ts s k y = s := by unfold Ed.takeS; rw [if_neg (by rw [h]; simp)]
theorem take_yes {ts : List Lx.Tk} {s : Ed.R} {k : Int} {y : List UInt8} (h : Ed.isS ts s k y = true) : Ed.takeS ts s k y = Ed.stepS s := by unfold Ed.takeS; rw [if_pos h]
set_option maxRecDepth 100000 in
set_option maxHeartbeats 4000000 in
theorem take_any (h : RdM w g A n c ts x s) (k : Int) (y : List UInt8) : Calls Tryz.prog 49 #[.pointer (some ⟨g, 0, none⟩), .int .i64 k, .string (T y)] w fun e w' => e = .returned (.bool (Ed.isS ts s k y)) ∧ Mv (fun q => q = g) w w' ∧ RdM w' g A n c ts x (Ed.takeS ts s k y) := by
  have NX := enext_any h
  have HH := Lib.hid h
  have hl := h.tok.len
  have e1 := T_toList y
  cases hn : Ed.nextS ts s with
  | none =>
    have hi := Ed.is_none (k := k) (x := y) hn
    rw [hi, take_no hi]
    rw [hn] at NX
    unfold tkW Lx.tk0 at NX
    dsimp only [Option.getD_none, Option.isSome_none] at NX
    replace NX := Lib.hid NX
    clear h hn hi
    go_enter Tryz.func49, Tryz.ntmps49
    go_wp2_with fail
    refine (NX.out).mono ?_
    rintro e w1 ⟨rfl, b1⟩
    have b2 := alloc_one w1 (.cells #[.int .i64 0, .string (T []), .int .i64 0, .int .i64 0] 56)
    have d2 := below_step b1 b2 (Nat.le_refl _)
    go_wp2_with fail
    go_ret
    exact ⟨rfl, Mv.of_new d2 _, HH.out.below d2⟩
  | some t =>
    have hi := Ed.is_some (k := k) (x := y) hn
    obtain ⟨_, _, hlt⟩ := Ed.next_at hn
    rw [hn] at NX
    obtain ⟨tk, tt, tn, tp⟩ := t
    unfold Ed.hitB at hi
    dsimp only at hi NX
    unfold tkW at NX
    dsimp only [Option.getD_some, Option.isSome_some] at NX
    have e2 := T_toList tt
    replace NX := Lib.hid NX
    by_cases hk : tk = k
    case neg =>
      have hk2 : (tk == k) = false := by simpa using hk
      have hk3 : (tk != k) = true := by simpa using hk
      have hi' : Ed.isS ts s k y = false := by rw [hi, hk2]; rfl
      rw [hi', take_no hi']
      clear h hn hi hi' hk
      go_enter Tryz.func49, Tryz.ntmps49
      go_wp2_with fail
      refine (NX.out).mono ?_
      rintro e w1 ⟨rfl, b1⟩
      have b2 := alloc_one w1 (.cells #[.int .i64 tk, .string (T tt), .int .i64 tn, .int .i64 (tp : Int)] 56)
      have K2 := (Blk.new w1 56 #[.int .i64 tk, .string (T tt), .int .i64 tn, .int .i64 (tp : Int)]).four
      have d2 := below_step b1 b2 (Nat.le_refl _)
      go_wp2_with fail
      go_ret
      exact ⟨rfl, Mv.of_new d2 _, HH.out.below d2⟩
    subst hk
    by_cases hy : y = []
    · subst hy
      have hi' : Ed.isS ts s tk [] = true := by rw [hi]; simp
      rw [hi', take_yes hi']
      clear h hn hi hi'
      go_enter Tryz.func49, Tryz.ntmps49
      go_wp2_with fail
      refine (NX.out).mono ?_
      rintro e w1 ⟨rfl, b1⟩
      have b2 := alloc_one w1 (.cells #[.int .i64 tk, .string (T tt), .int .i64 tn, .int .i64 (tp : Int)] 56)
      have K2 := (Blk.new w1 56 #[.int .i64 tk, .string (T tt), .int .i64 tn, .int .i64 (tp : Int)]).four
      have d2 := below_step b1 b2 (Nat.le_refl _)
      have H2 := HH.out.below d2
      have F2 := H2.blk.four
      have hcap := H2.tok.lt
      have S2 := Lib.hid (H2.step (by omega))
      clear H2
      go_wp2_with fail
      go_ret
      exact ⟨rfl, (Mv.of_new d2 (fun q => q = g)).trans (Mv.setCell _ ⟨g, 1, none⟩ _) (fun _ _ e => e), S2.out⟩
    have hy2 : y.isEmpty = false := by simpa using hy
    have hy3 : (y == []) = false := by simpa using hy
    by_cases ht : tt = y
    · subst ht
      have hi' : Ed.isS ts s tk tt = true := by rw [hi]; simp
      rw [hi', take_yes hi']
      clear h hn hi hi' hy
      go_enter Tryz.func49, Tryz.ntmps49
      go_wp2_with fail
      refine (NX.out).mono ?_
      rintro e w1 ⟨rfl, b1⟩
      have b2 := alloc_one w1 (.cells #[.int .i64 tk, .string (T tt), .int .i64 tn, .int .i64 (tp : Int)] 56)
      have K2 := (Blk.new w1 56 #[.int .i64 tk, .string (T tt), .int .i64 tn, .int .i64 (tp : Int)]).four
      have d2 := below_step b1 b2 (Nat.le_refl _)
      have H2 := HH.out.below d2
      have F2 := H2.blk.four
      have hcap := H2.tok.lt
      have S2 := Lib.hid (H2.step (by omega))
      clear H2
      go_wp2_with fail
      go_ret
      exact ⟨rfl, (Mv.of_new d2 (fun q => q = g)).trans (Mv.setCell _ ⟨g, 1, none⟩ _) (fun _ _ e => e), S2.out⟩
    · have ht2 : (tt == y) = false := by simpa using ht
      have ht3 : (tt != y) = true := by simpa using ht
      have hi' : Ed.isS ts s tk y = false := by rw [hi, ht2, hy2]; simp
      rw [hi', take_no hi']
      clear h hn hi hi' hy ht
      go_enter Tryz.func49, Tryz.ntmps49
      go_wp2_with fail
      refine (NX.out).mono ?_
      rintro e w1 ⟨rfl, b1⟩
      have b2 := alloc_one w1 (.cells #[.int .i64 tk, .string (T tt), .int .i64 tn, .int .i64 (tp : Int)] 56)
      have K2 := (Blk.new w1 56 #[.int .i64 tk, .string (T tt), .int .i64 tn, .int .i64 (tp : Int)]).four
      have d2 := below_step b1 b2 (Nat.le_refl _)
      go_wp2_with fail
      go_ret
      exact ⟨rfl, Mv.of_new d2 _, HH.out.below d2⟩
set_option maxHeartbeats 1000000 in
theorem efail_any (h : RdM w g A n c ts x s) (z : Int) : Calls Tryz.prog 96 #[.pointer (some ⟨g, 0, none⟩), .int .i64 z] w fun e w' => e = .returned (.tuple #[]) ∧ Mv (fun q => q = g) w w' ∧ RdM w' g A n c ts x (Ed.failS s z) := by
  have F := h.blk.four
  by_cases he : s.err = 0
  · have H2 := Lib.hid (h.fail he z)
    rw [he] at F
    clear h he
    go_enter Tryz.func96, Tryz.ntmps96
    go_wp2_with fail
    go_end0
    exact ⟨rfl, Mv.setCell _ ⟨g, 2, none⟩ _, H2.out⟩
  · have H2 := Lib.hid (h.failn he z)
    have e1 : (s.err == 0) = false := by simpa using he
    clear h he
    go_enter Tryz.func96, Tryz.ntmps96
    go_wp2_with fail
    go_end0
    exact ⟨rfl, Mv.refl _ _, H2.out⟩
theorem need_no {ts : List Lx.Tk} {s : Ed.R} {k : Int} {y : List UInt8} (h : Ed.isS ts s k y = false) : Ed.needR ts s k y = Ed.failS s 12 := by unfold Ed.needR; rw [if_neg (by rw [h]; simp)]
theorem need_yes {ts : List Lx.Tk} {s : Ed.R} {k : Int} {y : List UInt8} (h : Ed.isS ts s k y = true) : Ed.needR ts s k y = Ed.stepS s := by unfold Ed.needR; rw [if_pos h]
set_option maxRecDepth 100000 in
set_option maxHeartbeats 4000000 in
theorem need_any (h : RdM w g A n c ts x s) (k : Int) : Calls Tryz.prog 44 #[.pointer (some ⟨g, 0, none⟩), .int .i64 k] w fun e w' => e = .returned (tkW (Ed.needT ts s k)) ∧ Mv (fun q => q = g) w w' ∧ RdM w' g A n c ts x (Ed.needR ts s k []) := by
  have b0 := alloc_one w (.cells #[.int .i64 0, .string ⟨#[]⟩, .int .i64 0, .int .i64 0] 56)
  have K0 := Blk.new w 56 #[.int .i64 0, .string ⟨#[]⟩, .int .i64 0, .int .i64 0]
  have hg := h.blk.lt
  have NX := Lib.hid (enext_any (h.below b0))
  have hnt : Ed.isS ts s k [] = true → (Ed.nextS ts s).getD Lx.tk0 = Ed.needT ts s k := fun hi => by
    have h2 : Ed.needT ts s k = ts.getD s.pos Lx.tk0 := by unfold Ed.needT; rw [if_pos hi]
    rw [h2]
    cases hn : Ed.nextS ts s with
    | none => rw [Ed.is_none hn] at hi; cases hi
    | some t => rw [(Ed.next_at hn).1]; rfl
  have hn0 : Ed.isS ts s k [] = false → Ed.needT ts s k = Lx.tk0 := fun hi => by unfold Ed.needT; rw [if_neg (by rw [hi]; simp)]
  have TK := fun (w1 : World) (H : RdM w1 g A n c ts x s) => take_any H k []
  have hno := need_no (ts := ts) (s := s) (k := k) (y := [])
  have hyes := need_yes (ts := ts) (s := s) (k := k) (y := [])
  have htn := take_no (ts := ts) (s := s) (k := k) (y := [])
  have hty := take_yes (ts := ts) (s := s) (k := k) (y := [])
  generalize Ed.needT ts s k = nt at *
  generalize (Ed.nextS ts s).getD Lx.tk0 = t at *
  generalize (Ed.nextS ts s).isSome = tb at *
  obtain ⟨tk, tt, tn, tp⟩ := t
  unfold tkW at NX
  dsimp only at NX
  cases hi : Ed.isS ts s k []
  · rw [hno hi]
    obtain rfl := hn0 hi
    rw [hi, htn hi] at TK
    replace TK := Lib.hid TK
    have HH := Lib.hid h
    clear hno hyes hi hnt hn0 h htn hty
    go_enter Tryz.func44, Tryz.ntmps44
    go_wp2_with fail
    refine (NX.out).mono ?_
    rintro e w1 ⟨rfl, b1⟩
    have b2 := alloc_one w1 (.cells #[.int .i64 tk, .string (T tt), .int .i64 tn, .int .i64 (tp : Int)] 56)
    have d2 := below_step (below_step b0 b1 (Nat.le_refl _)) b2 (Nat.le_refl _)
    have K2 := K0.later (below_step b1 b2 (Nat.le_refl _))
    have H2 := HH.out.below d2
    have TK2 := Lib.hid (TK.out _ H2)
    clear H2 TK
    go_wp2_with fail
    refine (TK2.out).mono ?_
    rintro e w3 ⟨rfl, m3, H3⟩
    have K3 := K2.mv m3 (by omega)
    have M3 : Mv (fun q => q = g) w w3 := (Mv.of_new d2 (fun q => q = g)).trans m3 fun _ _ e => e
    have FL := Lib.hid (efail_any H3 12)
    clear TK2 H3
    go_wp2_with fail
    refine (FL.out).mono ?_
    rintro e w4 ⟨rfl, m4, H4⟩
    have K4 := K3.mv m4 (by omega)
    have F4 := K4.four
    have R4 := (K4.store4 (.int .i64 0) (.string ⟨#[]⟩) (.int .i64 0) (.int .i64 0)).four
    have M4 := M3.trans m4 fun _ _ e => e
    have m5 := ((((Mv.of_below ((Below.refl w.heap.size w4).setCell (p := ⟨w.heap.size, 0, none⟩) (Nat.le_refl _) (.int .i64 0))).trans (Mv.of_below ((Below.refl w.heap.size _).setCell (p := ⟨w.heap.size, 1, none⟩) (Nat.le_refl _) (.string ⟨#[]⟩))) (fun _ _ e => e)).trans (Mv.of_below ((Below.refl w.heap.size _).setCell (p := ⟨w.heap.size, 2, none⟩) (Nat.le_refl _) (.int .i64 0))) (fun _ _ e => e)).trans (Mv.of_below ((Below.refl w.heap.size _).setCell (p := ⟨w.heap.size, 3, none⟩) (Nat.le_refl _) (.int .i64 0))) (fun _ _ e => e))
    have H5 := Lib.hid (H4.mv m5 (fun q hq => by have hq' : w.heap.size ≤ q := hq; omega))
    have M5 := Lib.hid (M4.trans m5 (fun b hb e => absurd (show w.heap.size ≤ b from e) (by omega)))
    clear H4 m5 M4 K4
    go_wp2_with fail
    exact bodyPost_ret (v := tkW Lx.tk0) (by simp [results, Tryz.results44, go_sem, R4, tkW, Lx.tk0]; rfl) rfl ⟨rfl, M5.out, H5.out⟩
  · rw [hyes hi]
    obtain rfl := hnt hi
    rw [hi, hty hi] at TK
    replace TK := Lib.hid TK
    have HH := Lib.hid h
    clear hno hyes hi hnt hn0 h htn hty
    go_enter Tryz.func44, Tryz.ntmps44
    go_wp2_with fail
    refine (NX.out).mono ?_
    rintro e w1 ⟨rfl, b1⟩
    have b2 := alloc_one w1 (.cells #[.int .i64 tk, .string (T tt), .int .i64 tn, .int .i64 (tp : Int)] 56)
    have d2 := below_step (below_step b0 b1 (Nat.le_refl _)) b2 (Nat.le_refl _)
    have K2 := K0.later (below_step b1 b2 (Nat.le_refl _))
    have Q2 := Blk.new w1 56 #[.int .i64 tk, .string (T tt), .int .i64 tn, .int .i64 (tp : Int)]
    have hw1 : w.heap.size < w1.heap.size := K0.later b1 |>.lt
    have H2 := HH.out.below d2
    have TK2 := Lib.hid (TK.out _ H2)
    clear H2 TK
    go_wp2_with fail
    refine (TK2.out).mono ?_
    rintro e w4 ⟨rfl, m3, H4⟩
    have K4 := K2.mv m3 (by omega)
    have Q4 := (Q2.mv m3 (by omega)).four
    have M4 : Mv (fun q => q = g) w w4 := (Mv.of_new d2 (fun q => q = g)).trans m3 fun _ _ e => e
    have F4 := K4.four
    have R4 := (K4.store4 (.int .i64 tk) (.string (T tt)) (.int .i64 tn) (.int .i64 (tp : Int))).four
    have m5 := ((((Mv.of_below ((Below.refl w.heap.size w4).setCell (p := ⟨w.heap.size, 0, none⟩) (Nat.le_refl _) (.int .i64 tk))).trans (Mv.of_below ((Below.refl w.heap.size _).setCell (p := ⟨w.heap.size, 1, none⟩) (Nat.le_refl _) (.string (T tt)))) (fun _ _ e => e)).trans (Mv.of_below ((Below.refl w.heap.size _).setCell (p := ⟨w.heap.size, 2, none⟩) (Nat.le_refl _) (.int .i64 tn))) (fun _ _ e => e)).trans (Mv.of_below ((Below.refl w.heap.size _).setCell (p := ⟨w.heap.size, 3, none⟩) (Nat.le_refl _) (.int .i64 (tp : Int)))) (fun _ _ e => e))
    have H5 := Lib.hid (H4.mv m5 (fun q hq => by have hq' : w.heap.size ≤ q := hq; omega))
    have M5 := Lib.hid (M4.trans m5 (fun b hb e => absurd (show w.heap.size ≤ b from e) (by omega)))
    clear TK2 H4 m5 M4 K4
    go_wp2_with fail
    exact bodyPost_ret (v := tkW ⟨tk, tt, tn, tp⟩) (by simp [results, Tryz.results44, go_sem, R4, tkW, Lx.tk0]) rfl ⟨rfl, M5.out, H5.out⟩
set_option maxHeartbeats 1000000 in
theorem mark_any (h : RdM w g A n c ts x s) (y : List UInt8) : Calls Tryz.prog 45 #[.pointer (some ⟨g, 0, none⟩), .string (T y)] w fun e w' => e = .returned (.tuple #[]) ∧ Mv (fun q => q = g) w w' ∧ RdM w' g A n c ts x (Ed.needR ts s 5 y) := by
  have TK := take_any h 5 y
  have hno := need_no (ts := ts) (s := s) (k := 5) (y := y)
  have hyes := need_yes (ts := ts) (s := s) (k := 5) (y := y)
  have htn := take_no (ts := ts) (s := s) (k := 5) (y := y)
  have hty := take_yes (ts := ts) (s := s) (k := 5) (y := y)
  cases hi : Ed.isS ts s 5 y
  · rw [hno hi]
    rw [hi, htn hi] at TK
    replace TK := Lib.hid TK
    clear hno hyes hi h htn hty
    go_enter Tryz.func45, Tryz.ntmps45
    go_wp2_with fail
    refine (TK.out).mono ?_
    rintro e w1 ⟨rfl, m1, H1⟩
    have FL := Lib.hid (efail_any H1 12)
    clear TK H1
    go_wp2_with fail
    refine (FL.out).mono ?_
    rintro e w2 ⟨rfl, m2, H2⟩
    go_wp2_with fail
    go_end0
    exact ⟨rfl, m1.trans m2 fun _ _ e => e, H2⟩
  · rw [hyes hi]
    rw [hi, hty hi] at TK
    replace TK := Lib.hid TK
    clear hno hyes hi h htn hty
    go_enter Tryz.func45, Tryz.ntmps45
    go_wp2_with fail
    refine (TK.out).mono ?_
    rintro e w1 ⟨rfl, m1, H1⟩
    go_wp2_with fail
    go_end0
    exact ⟨rfl, m1, H1⟩
end
end Go.Proofs.YtmolmpgampmolaaGreat
/-
  Walks: word, count, kind, rights, place of layer 17.
  Conditions: none.
-/
namespace Go.Proofs.YtmolmpgampmolaaGreat
set_option linter.unusedVariables false
set_option linter.unusedSimpArgs false
open Go.RowKit Go.Sort
theorem word_any (a : Int) (w : World) : Calls Tryz.prog 34 #[.int .i64 a] w fun e w' => e = .returned (.string (T (Ed.wordS a))) ∧ w = w' := by
  unfold Ed.wordS
  by_cases h1 : a = 1
  · subst h1
    go_enter Tryz.func34, Tryz.ntmps34
    go_wp2_with fail
    go_ret
    exact ⟨rfl, rfl⟩
  have e1 : (a == 1) = false := by simpa using h1
  rw [if_neg h1]
  by_cases h2 : a = 2
  · subst h2
    go_enter Tryz.func34, Tryz.ntmps34
    go_wp2_with fail
    go_ret
    exact ⟨rfl, rfl⟩
  have e2 : (a == 2) = false := by simpa using h2
  rw [if_neg h2]
  by_cases h3 : a = 3
  · subst h3
    go_enter Tryz.func34, Tryz.ntmps34
    go_wp2_with fail
    go_ret
    exact ⟨rfl, rfl⟩
  have e3 : (a == 3) = false := by simpa using h3
  rw [if_neg h3]
  clear h1 h2 h3
  go_enter Tryz.func34, Tryz.ntmps34
  go_wp2_with fail
  go_ret
  exact ⟨rfl, rfl⟩
section
variable {w w' : World} {g : Nat} {A : Option Addr} {n c : Nat} {ts : List Lx.Tk} {x : List UInt8} {s : Ed.R}
theorem fld1 (tk : Int) (tt : List UInt8) (tn : Int) (tp : Nat) : ∀ w : World, (Instr.field 56 (.agg #[.int .i64 tk, .string (T tt), .int .i64 tn, .int .i64 (tp : Int)]) 1).run Tryz.prog w = .ok (.string (T tt)) w := fun _ => by kernel_rfl
theorem fld2 (tk : Int) (tt : List UInt8) (tn : Int) (tp : Nat) : ∀ w : World, (Instr.field 56 (.agg #[.int .i64 tk, .string (T tt), .int .i64 tn, .int .i64 (tp : Int)]) 2).run Tryz.prog w = .ok (.int .i64 tn) w := fun _ => by kernel_rfl
set_option maxRecDepth 100000 in
set_option maxHeartbeats 1000000 in
theorem count_any (h : RdM w g A n c ts x s) : Calls Tryz.prog 46 #[.pointer (some ⟨g, 0, none⟩)] w fun e w' => e = .returned (.int .i64 (Ed.cntV (Ed.needT ts s 2).n)) ∧ Mv (fun q => q = g) w w' ∧ RdM w' g A n c ts x (Ed.needR ts s 2 []) := by
  have ND := need_any h 2
  generalize Ed.needT ts s 2 = t at *
  obtain ⟨tk, tt, tn, tp⟩ := t
  unfold tkW at ND
  dsimp only at ND ⊢
  replace ND := Lib.hid ND
  clear h
  have hfd := fld2 tk tt tn tp
  unfold Ed.cntV
  by_cases h1 : tn < 0 ∨ 65536 < tn
  · rw [if_pos h1]
    rcases h1 with h1 | h1
    all_goals
      go_enter Tryz.func46, Tryz.ntmps46
      go_wp2_with fail
      refine (ND.out).mono ?_
      rintro e w1 ⟨rfl, m1, H1⟩
      go_wp2_with fail
      go_ret
      exact ⟨rfl, m1, H1⟩
  · rw [if_neg h1]
    have h2 : 0 ≤ tn := by omega
    have h3 : tn ≤ 65536 := by omega
    clear h1
    go_enter Tryz.func46, Tryz.ntmps46
    go_wp2_with fail
    refine (ND.out).mono ?_
    rintro e w1 ⟨rfl, m1, H1⟩
    go_wp2_with fail
    go_ret
    exact ⟨rfl, m1, H1⟩
set_option maxRecDepth 100000 in
set_option maxHeartbeats 4000000 in
theorem ekind_any (h : RdM w g A n c ts x s) : Calls Tryz.prog 47 #[.pointer (some ⟨g, 0, none⟩)] w fun e w' => e = .returned (.int .i64 (Ed.kindT ts s)) ∧ Mv (fun q => q = g) w w' ∧ RdM w' g A n c ts x (Ed.kindR ts s) := by
  have NX := enext_any h
  have HH := Lib.hid h
  have hl := h.tok.len
  cases hn : Ed.nextS ts s with
  | none =>
    have hi := Ed.is_none (k := 1) (x := []) hn
    have h1 : Ed.kindT ts s = 0 := by unfold Ed.kindT; rw [if_neg (by rw [hi]; simp)]
    have h2 : Ed.kindR ts s = Ed.failS s 12 := by unfold Ed.kindR; rw [if_neg (by rw [hi]; simp)]
    rw [h1, h2]
    rw [hn] at NX
    unfold tkW Lx.tk0 at NX
    dsimp only [Option.getD_none, Option.isSome_none] at NX
    replace NX := Lib.hid NX
    clear h hn hi h1 h2
    go_enter Tryz.func47, Tryz.ntmps47
    go_wp2_with fail
    refine (NX.out).mono ?_
    rintro e w1 ⟨rfl, b1⟩
    have b2 := alloc_one w1 (.cells #[.int .i64 0, .string (T []), .int .i64 0, .int .i64 0] 56)
    have d2 := below_step b1 b2 (Nat.le_refl _)
    have FL := Lib.hid (efail_any (HH.out.below d2) 12)
    clear NX
    go_wp2_with fail
    refine (FL.out).mono ?_
    rintro e w3 ⟨rfl, m3, H3⟩
    go_wp2_with fail
    go_ret
    exact ⟨rfl, (Mv.of_new d2 _).trans m3 fun _ _ e => e, H3⟩
  | some t =>
    have hi := Ed.is_some (k := 1) (x := []) hn
    obtain ⟨ht, _, hlt⟩ := Ed.next_at hn
    have h1 : Ed.kindT ts s = if Ed.isS ts s 1 [] = true then (if (nameS t.text).2 = true then (nameS t.text).1 else 0) else 0 := by unfold Ed.kindT; rw [← ht]
    have h2 : Ed.kindR ts s = if Ed.isS ts s 1 [] = true then (if (nameS t.text).2 = true then Ed.stepS s else Ed.failS s 15) else Ed.failS s 12 := by unfold Ed.kindR; rw [← ht]
    rw [h1, h2]
    rw [hn] at NX
    clear ht h1 h2
    obtain ⟨tk, tt, tn, tp⟩ := t
    unfold Ed.hitB at hi
    dsimp only at hi NX
    unfold tkW at NX
    dsimp only [Option.getD_some, Option.isSome_some] at NX ⊢
    replace NX := Lib.hid NX
    by_cases hk : tk = 1
    case neg =>
      have hk2 : (tk == 1) = false := by simpa using hk
      have hi' : Ed.isS ts s 1 [] = false := by rw [hi, hk2]; rfl
      rw [hi']
      simp only [Bool.false_eq_true, if_false]
      clear h hn hi hi' hk
      go_enter Tryz.func47, Tryz.ntmps47
      go_wp2_with fail
      refine (NX.out).mono ?_
      rintro e w1 ⟨rfl, b1⟩
      have b2 := alloc_one w1 (.cells #[.int .i64 tk, .string (T tt), .int .i64 tn, .int .i64 (tp : Int)] 56)
      have K2 := (Blk.new w1 56 #[.int .i64 tk, .string (T tt), .int .i64 tn, .int .i64 (tp : Int)]).four
      have d2 := below_step b1 b2 (Nat.le_refl _)
      have FL := Lib.hid (efail_any (HH.out.below d2) 12)
      clear NX
      go_wp2_with fail
      refine (FL.out).mono ?_
      rintro e w3 ⟨rfl, m3, H3⟩
      go_wp2_with fail
      go_ret
      exact ⟨rfl, (Mv.of_new d2 _).trans m3 fun _ _ e => e, H3⟩
    subst hk
    have hi' : Ed.isS ts s 1 [] = true := by rw [hi]; simp
    rw [hi']
    simp only [if_true]
    have BN := fun w => ByName_any tt w
    generalize nameS tt = nn at *
    obtain ⟨nt, nb⟩ := nn
    dsimp only at BN ⊢
    replace BN := Lib.hid BN
    clear h hn hi hi'
    cases nb
    · simp only [Bool.false_eq_true, if_false]
      go_enter Tryz.func47, Tryz.ntmps47
      go_wp2_with fail
      refine (NX.out).mono ?_
      rintro e w1 ⟨rfl, b1⟩
      have b2 := alloc_one w1 (.cells #[.int .i64 1, .string (T tt), .int .i64 tn, .int .i64 (tp : Int)] 56)
      have K2 := (Blk.new w1 56 #[.int .i64 1, .string (T tt), .int .i64 tn, .int .i64 (tp : Int)]).four
      have d2 := below_step b1 b2 (Nat.le_refl _)
      clear NX
      go_wp2_with fail
      refine (BN.out _).mono ?_
      rintro e w3 ⟨rfl, b3⟩
      have d3 := below_step d2 b3 (Nat.le_refl _)
      have FL := Lib.hid (efail_any (HH.out.below d3) 15)
      clear K2 BN
      go_wp2_with fail
      refine (FL.out).mono ?_
      rintro e w4 ⟨rfl, m4, H4⟩
      go_wp2_with fail
      go_ret
      exact ⟨rfl, (Mv.of_new d3 _).trans m4 fun _ _ e => e, H4⟩
    · simp only [if_true]
      go_enter Tryz.func47, Tryz.ntmps47
      go_wp2_with fail
      refine (NX.out).mono ?_
      rintro e w1 ⟨rfl, b1⟩
      have b2 := alloc_one w1 (.cells #[.int .i64 1, .string (T tt), .int .i64 tn, .int .i64 (tp : Int)] 56)
      have K2 := (Blk.new w1 56 #[.int .i64 1, .string (T tt), .int .i64 tn, .int .i64 (tp : Int)]).four
      have d2 := below_step b1 b2 (Nat.le_refl _)
      clear NX
      go_wp2_with fail
      refine (BN.out _).mono ?_
      rintro e w3 ⟨rfl, b3⟩
      have d3 := below_step d2 b3 (Nat.le_refl _)
      have H3 := HH.out.below d3
      have F3 := H3.blk.four
      have hcap := H3.tok.lt
      have S3 := Lib.hid (H3.step (by omega))
      clear H3 K2 BN
      go_wp2_with fail
      go_ret
      exact ⟨rfl, (Mv.of_new d3 (fun q => q = g)).trans (Mv.setCell _ ⟨g, 1, none⟩ _) (fun _ _ e => e), S3.out⟩
def NoR (ts : List Lx.Tk) (s : Ed.R) (k : Nat) : Prop := ∀ j : Nat, 1 ≤ j → j < k → Ed.isS ts s 1 (Ed.wordS (j : Int)) = false
theorem rights_yes {ts : List Lx.Tk} {s : Ed.R} {k : Nat} (h : NoR ts s k) (hk : 1 ≤ k ∧ k ≤ 4) (hi : Ed.isS ts s 1 (Ed.wordS (k : Int)) = true) : Ed.rightsT ts s = (k : Int) ∧ Ed.rightsR ts s = Ed.stepS s := by
  have hr : Ed.rightsT ts s = (k : Int) := by
    unfold Ed.rightsT
    rcases (show k = 1 ∨ k = 2 ∨ k = 3 ∨ k = 4 by omega) with rfl | rfl | rfl | rfl
    · have hi1 : Ed.isS ts s 1 (Ed.wordS 1) = true := hi
      rw [if_pos hi1]; rfl
    · have hi1 : Ed.isS ts s 1 (Ed.wordS 2) = true := hi
      rw [if_neg (by have := h 1 (by omega) (by omega); simp [show Ed.isS ts s 1 (Ed.wordS 1) = false from this]), if_pos hi1]; rfl
    · have hi1 : Ed.isS ts s 1 (Ed.wordS 3) = true := hi
      rw [if_neg (by have := h 1 (by omega) (by omega); simp [show Ed.isS ts s 1 (Ed.wordS 1) = false from this]), if_neg (by have := h 2 (by omega) (by omega); simp [show Ed.isS ts s 1 (Ed.wordS 2) = false from this]), if_pos hi1]; rfl
    · have hi1 : Ed.isS ts s 1 (Ed.wordS 4) = true := hi
      rw [if_neg (by have := h 1 (by omega) (by omega); simp [show Ed.isS ts s 1 (Ed.wordS 1) = false from this]), if_neg (by have := h 2 (by omega) (by omega); simp [show Ed.isS ts s 1 (Ed.wordS 2) = false from this]), if_neg (by have := h 3 (by omega) (by omega); simp [show Ed.isS ts s 1 (Ed.wordS 3) = false from this]), if_pos hi1]; rfl
  refine ⟨hr, ?_⟩
  unfold Ed.rightsR
  rw [if_neg (by rw [hr]; omega)]
theorem rights_no {ts : List Lx.Tk} {s : Ed.R} (h : NoR ts s 5) : Ed.rightsT ts s = 0 ∧ Ed.rightsR ts s = Ed.failS s 12 := by
  have hr : Ed.rightsT ts s = 0 := by
    unfold Ed.rightsT
    rw [if_neg (by have := h 1 (by omega) (by omega); simp [show Ed.isS ts s 1 (Ed.wordS 1) = false from this]), if_neg (by have := h 2 (by omega) (by omega); simp [show Ed.isS ts s 1 (Ed.wordS 2) = false from this]), if_neg (by have := h 3 (by omega) (by omega); simp [show Ed.isS ts s 1 (Ed.wordS 3) = false from this]), if_neg (by have := h 4 (by omega) (by omega); simp [show Ed.isS ts s 1 (Ed.wordS 4) = false from this])]
  refine ⟨hr, ?_⟩
  unfold Ed.rightsR
  rw [if_pos hr]
set_option maxRecDepth 100000 in
set_option maxHeartbeats 4000000 in
theorem erights_any (h : RdM w g A n c ts x s) : Calls Tryz.prog 48 #[.pointer (some ⟨g, 0, none⟩)] w fun e w' => e = .returned (.int .i64 (Ed.rightsT ts s)) ∧ Mv (fun q => q = g) w w' ∧ RdM w' g A n c ts x (Ed.rightsR ts s) := by
  have hg := h.blk.lt
  have HH := Lib.hid h
  have YES := Lib.hid (fun k => rights_yes (ts := ts) (s := s) (k := k))
  have NO := Lib.hid (rights_no (ts := ts) (s := s))
  generalize Ed.rightsT ts s = rt at *
  generalize Ed.rightsR ts s = rr at *
  clear h
  go_enter Tryz.func48, Tryz.ntmps48
  go_wp2_with fail
  go_loopw [3] (fun i wr => ∃ k : Nat, 1 ≤ k ∧ k ≤ 5 ∧ i = .int .i64 k ∧ NoR ts s k ∧ Mv (fun q => q = g) w wr ∧ RdM wr g A n c ts x s) (fun i _ => 5 - (intOf i).toNat)
  case atStart => exact ⟨1, by omega, by omega, rfl, fun j h1 h2 => absurd h1 (by omega), Mv.refl _ _, HH.out⟩
  case round =>
    obtain ⟨k, hk1, hk5, rfl, hno, hm, hr⟩ := hrel
    by_cases hlt : k < 5
    · have WD := Lib.hid (word_any (k : Int) wr.drew)
      have Hr := hr.below (below_drew wr)
      have TK := take_any Hr 1 (Ed.wordS (k : Int))
      have hyes := YES.out k hno ⟨hk1, by omega⟩
      have hstep : Ed.isS ts s 1 (Ed.wordS (k : Int)) = false → NoR ts s (k + 1) := fun hf j h1 h2 => by
        rcases Nat.lt_or_ge j k with h3 | h3
        · exact hno j h1 h3
        · obtain rfl : j = k := by omega
          exact hf
      have htn := take_no (ts := ts) (s := s) (k := 1) (y := Ed.wordS (k : Int))
      have hty := take_yes (ts := ts) (s := s) (k := 1) (y := Ed.wordS (k : Int))
      cases hi : Ed.isS ts s 1 (Ed.wordS (k : Int))
      · rw [hi, htn hi] at TK
        have HS := Lib.hid (hstep hi)
        replace TK := Lib.hid TK
        clear hyes hstep hi Hr hno htn hty
        go_wp2_with fail
        refine region_mv 99 (fun q => q = g) (by kernel_rfl) ?_
        refine phase_mv (by kernel_rfl) 2 (Mv.refl _ _).drew [0, 3, 1, 2] rfl (by kernel_rfl) ?_
        simp only [picks, nth]
        repeat (go_big_quiet_step (fail))
        refine wpQuiet_nil ?_
        refine phase_opL 4 1 rfl (by kernel_rfl) (by decide) ?_
        simp only [nth]
        go_wp2_with fail
        refine (WD.out).mono ?_
        rintro e _ ⟨rfl, rfl⟩
        go_wp2_with fail
        refine behind_mv (Mv.refl _ _).drew ?_
        refine phase_opL 5 0 rfl (by kernel_rfl) (by decide) ?_
        simp only [nth]
        go_wp2_with fail
        refine (TK.out).mono ?_
        rintro e w2 ⟨rfl, m2, H2⟩
        have M2 : Mv (fun q => q = g) wr w2 := (Mv.of_new (below_drew wr) (fun q => q = g)).trans m2 fun _ _ e => e
        have MM := (hm.trans M2 fun _ _ e => e)
        clear TK WD
        go_wp2_with fail
        refine behind_mv M2 ?_
        refine phase_endL (by kernel_rfl) ?_
        go_wp2_with fail
        go_roundw
        case rel => exact ⟨k + 1, by omega, by omega, by go_num, HS.out, MM, H2⟩
        case measure => simp [intOf] <;> omega
      · rw [hi, hty hi] at TK
        obtain ⟨y1, y2⟩ := hyes hi
        replace TK := Lib.hid TK
        have HY := Lib.hid (And.intro y1 y2)
        clear hyes hstep hi Hr hno htn hty y1 y2
        go_wp2_with fail
        refine region_mv 99 (fun q => q = g) (by kernel_rfl) ?_
        refine phase_mv (by kernel_rfl) 2 (Mv.refl _ _).drew [0, 3, 1, 2] rfl (by kernel_rfl) ?_
        simp only [picks, nth]
        repeat (go_big_quiet_step (fail))
        refine wpQuiet_nil ?_
        refine phase_opL 4 1 rfl (by kernel_rfl) (by decide) ?_
        simp only [nth]
        go_wp2_with fail
        refine (WD.out).mono ?_
        rintro e _ ⟨rfl, rfl⟩
        go_wp2_with fail
        refine behind_mv (Mv.refl _ _).drew ?_
        refine phase_opL 5 0 rfl (by kernel_rfl) (by decide) ?_
        simp only [nth]
        go_wp2_with fail
        refine (TK.out).mono ?_
        rintro e w2 ⟨rfl, m2, H2⟩
        have M2 : Mv (fun q => q = g) wr w2 := (Mv.of_new (below_drew wr) (fun q => q = g)).trans m2 fun _ _ e => e
        have MM := (hm.trans M2 fun _ _ e => e)
        clear TK WD
        go_wp2_with fail
        refine behind_mv M2 ?_
        refine phase_endL (by kernel_rfl) ?_
        go_wp2_with fail
        go_ret
        rw [HY.out.1, HY.out.2]
        exact ⟨rfl, MM, H2⟩
    · obtain rfl : k = 5 := by omega
      have HN := Lib.hid (NO.out hno)
      have FL := Lib.hid (efail_any hr 12)
      clear hno
      go_wp2_with fail
      refine (FL.out).mono ?_
      rintro e w2 ⟨rfl, m2, H2⟩
      go_wp2_with fail
      go_ret
      rw [HN.out.1, HN.out.2]
      exact ⟨rfl, hm.trans m2 fun _ _ e => e, H2⟩
set_option maxRecDepth 100000 in
set_option maxHeartbeats 2000000 in
theorem place_any (h : RdM w g A n c ts x s) (hx : x.length ≤ 1000000) : Calls Tryz.prog 17 #[.pointer (some ⟨g, 0, none⟩)] w fun e w' => e = .returned (.int .i64 (Ed.placeS ts x.length s.pos : Int)) ∧ Below w.heap.size w w' := by
  have hT := T_size x
  have hl := h.tok.len
  have hle := h.le
  have HH := Lib.hid h
  unfold Ed.placeS
  by_cases hp : s.pos < n
  · rw [if_pos (by omega)]
    obtain ⟨b, o, rfl, hb, q0, q1, q2, q3⟩ := h.tok.at_ hp
    have ht : (ts.getD s.pos Lx.tk0).pl = (ts.getD s.pos tkz).pl := rfl
    rw [ht]
    generalize (ts.getD s.pos tkz).pl = tp at *
    have F := h.blk.four
    have hp2 : (s.pos : Int) < (n : Int) := by omega
    have c3 := fun k : Nat => (show (w.drewN k).cell? ⟨b, o + s.pos * 4 + 3, none⟩ = some (.int .i64 (tp : Int)) from q3)
    clear h ht q0 q1 q2
    go_enter Tryz.func17, Tryz.ntmps17
    go_wp2_with fail
    go_quiet (fail)
    go_wp2_with fail
    go_quiet (fail)
    go_wp2_with fail
    go_ret
    refine ⟨rfl, ?_⟩
    first | exact below_drewN (below_drewN (Below.refl _ _) _) _ | exact below_drewN (Below.refl _ _) _
  · rw [if_neg (by omega)]
    have F := h.blk.four
    have hp2 : (n : Int) ≤ (s.pos : Int) := by omega
    clear h
    go_enter Tryz.func17, Tryz.ntmps17
    go_wp2_with fail
    go_quiet (fail)
    go_wp2_with fail
    go_ret
    exact ⟨by rw [← hT]; rfl, below_drewN (Below.refl _ _) _⟩
end
end Go.Proofs.YtmolmpgampmolaaGreat
