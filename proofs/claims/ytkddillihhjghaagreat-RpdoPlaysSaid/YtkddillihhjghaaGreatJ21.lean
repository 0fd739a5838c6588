/-
  Texts joined: RpdRef, RpdRRecv, DicVals.
  Conditions: none.
-/
import Derived.Test.YtkddillihhjghaaGreatJ02
import Derived.Test.YtkddillihhjghaaGreatJ09
import Derived.Test.YtkddillihhjghaaGreatJ12
import Derived.Test.YtkddillihhjghaaGreatJ13
import Derived.Test.YtkddillihhjghaaGreatJ14
import Derived.Test.YtkddillihhjghaaGreatJ16
import Derived.Test.YtkddillihhjghaaGreatJ19
import Derived.Test.YtkddillihhjghaaGreatJ20
/-
  Walks: Check, New, Id of the reference of layer 31.
  Conditions: none.
-/
namespace Go.Proofs.YtkddillihhjghaaGreat
set_option linter.unusedVariables false
set_option linter.unusedSimpArgs false
open Go.RowKit Go.Sort
set_option maxRecDepth 100000 in
set_option maxHeartbeats 4000000 in
theorem RRCheck_any {F : Nat → Prop} {w : World} {g gv lc vc : Nat} {lA vA : Option Addr} {xs vs : List Value} {D : Dc.Dic} {A : Option Addr} {n c B : Nat} {ws : List Nat} (v : Nat) (hv : v < 4294967296) (t : Int) (h : DRt 77 w F g gv lA lc vA vc xs vs D) (hw : RW w B A n c ws) (hwl : ∀ x ∈ ws, x < 4294967296) (hB : B ≤ w.heap.size) :
    Calls Tryz.prog 12 #[.pointer (some ⟨g, 0, none⟩), .agg #[.int .u32 (v : Int), .int .i64 t, .slice A n c]] w fun e w' => e = .returned (.int .u32 (Rp.checkS D.l v t ws)) ∧ Below w.heap.size w w' := by
  have b0 := alloc_one w (.cells #[.int .u32 (v : Int), .int .i64 t, .slice A n c] 26)
  have K := Blk.new w 26 #[.int .u32 (v : Int), .int .i64 t, .slice A n c]
  have F0 := K.three
  have PL := fun w => RPlace_any v hv w
  have CK := fun w1 (hb : Below w.heap.size w w1) => RMCheck_any true (h.below hb) (hw.below (hb.mono hB)) hwl (Nat.le_trans hB hb.size)
  have hcs : Rp.checkS D.l v t ws = if Cob.place v ≠ 0 then Cob.place v else if Rp.kindB t = false then 101253168 else Mp.checkS D.l true ws := rfl
  rw [hcs]
  clear hcs h hw
  generalize Mp.checkS D.l true ws = r at *
  generalize Cob.place v = pl at *
  replace PL := Lib.hid PL; replace CK := Lib.hid CK
  by_cases hp : pl = 0
  · subst hp
    simp only [ne_eq, not_true_eq_false, if_false]
    rcases (show t < 0 ∨ (0 ≤ t ∧ t ≤ 240) ∨ (240 < t ∧ t ≠ 254 ∧ t ≠ 255) ∨ t = 254 ∨ t = 255 by omega) with h1 | ⟨h1, h2⟩ | ⟨h1, h2, h3⟩ | h1 | h1
    · rw [show Rp.kindB t = false from decide_eq_false (by omega)]
      simp only [if_true]
      go_enter Tryz.func12, Tryz.ntmps12
      go_wp2_with fail
      refine (PL.out _).mono ?_
      rintro e w1 ⟨rfl, b1⟩
      have F1 := (K.later b1).three
      clear F0
      go_wp2_with fail
      go_ret
      exact ⟨rfl, below_step b0 b1 (Nat.le_refl _)⟩
    · rw [show Rp.kindB t = true from decide_eq_true (by omega)]
      simp only [Bool.true_eq_false, if_false]
      go_enter Tryz.func12, Tryz.ntmps12
      go_wp2_with fail
      refine (PL.out _).mono ?_
      rintro e w1 ⟨rfl, b1⟩
      have F1 := (K.later b1).three
      have d1 := below_step b0 b1 (Nat.le_refl _)
      clear F0
      go_wp2_with fail
      refine (CK.out _ d1).mono ?_
      rintro e w2 ⟨rfl, b2⟩
      go_wp2_with fail
      go_ret
      exact ⟨rfl, below_step d1 b2 (Nat.le_refl _)⟩
    · rw [show Rp.kindB t = false from decide_eq_false (by omega)]
      have e1 : (t != 254) = true := by simpa using h2
      have e2 : (t != 255) = true := by simpa using h3
      replace h2 := Lib.hid h2; replace h3 := Lib.hid h3
      simp only [if_true]
      go_enter Tryz.func12, Tryz.ntmps12
      go_wp2_with fail
      refine (PL.out _).mono ?_
      rintro e w1 ⟨rfl, b1⟩
      have F1 := (K.later b1).three
      clear F0
      go_wp2_with fail
      go_ret
      exact ⟨rfl, below_step b0 b1 (Nat.le_refl _)⟩
    all_goals
      subst h1
      rw [show Rp.kindB _ = true from decide_eq_true (by omega)]
      simp only [Bool.true_eq_false, if_false]
      go_enter Tryz.func12, Tryz.ntmps12
      go_wp2_with fail
      refine (PL.out _).mono ?_
      rintro e w1 ⟨rfl, b1⟩
      have F1 := (K.later b1).three
      have d1 := below_step b0 b1 (Nat.le_refl _)
      clear F0
      go_wp2_with fail
      refine (CK.out _ d1).mono ?_
      rintro e w2 ⟨rfl, b2⟩
      go_wp2_with fail
      go_ret
      exact ⟨rfl, below_step d1 b2 (Nat.le_refl _)⟩
  · simp only [ne_eq, hp, not_false_eq_true, if_true]
    have hp2 : (pl == 0) = false := by simpa using hp
    have hp3 : (pl != 0) = true := by simpa using hp
    replace hp := Lib.hid hp
    go_enter Tryz.func12, Tryz.ntmps12
    go_wp2_with fail
    refine (PL.out _).mono ?_
    rintro e w1 ⟨rfl, b1⟩
    go_wp2_with fail
    go_ret
    exact ⟨rfl, below_step b0 b1 (Nat.le_refl _)⟩
/-- The reference's PDO, in memory. -/
structure RpRM (w : World) (base g gd : Nat) (v : Nat) (t : Int) (ws : List Nat) (waits : List Dc.Vl) (Aw : Option Addr) (cw : Nat) (Av : Option Addr) (cv : Nat) : Prop where
  gb : base ≤ g
  blk : Blk w g 87 #[.pointer (some ⟨gd, 0, none⟩), .int .u32 (v : Int), .int .i64 t, .slice Aw ws.length cw, .slice Av waits.length cv]
  words : OWd w base Aw ws.length cw ws
  wait : OS (VlW w base) w base 64 3 Av waits.length cv waits
section
variable {w w' : World} {base g gd v : Nat} {t : Int} {ws : List Nat} {waits new : List Dc.Vl} {Aw Av A1 : Option Addr} {cw cv c1 : Nat}
theorem RpRM.below (h : RpRM w base g gd v t ws waits Aw cw Av cv) (hb : Below w.heap.size w w') : RpRM w' base g gd v t ws waits Aw cw Av cv :=
  ⟨h.gb, h.blk.later hb, h.words.below hb, h.wait.below hb fun _ _ h => h.below hb⟩
theorem RpRM.hold (h : RpRM w base g gd v t ws waits Aw cw Av cv) (ho : OS (VlW w base) w base 64 3 A1 new.length c1 new) : RpRM (w.setCell ⟨g, 4, none⟩ (.slice A1 new.length c1)) base g gd v t ws new Aw cw A1 c1 :=
  ⟨h.gb, h.blk.set_ 4 _, OV.off h.words h.blk (by decide), OS.outv ho h.blk (by decide) (by decide) 4 _⟩
theorem RpRM.out {q : Nat} {t' : TypeId} {cs : Array Value} (h : RpRM w base g gd v t ws waits Aw cw Av cv) (hq : Blk w q t' cs) (hne : q ≠ g) (h1 : t' ≠ 23) (h2 : t' ≠ 64) (h3 : t' ≠ 5) (i : Nat) (u : Value) : RpRM (w.setCell ⟨q, i, none⟩ u) base g gd v t ws waits Aw cw Av cv :=
  ⟨h.gb, h.blk.far (p := ⟨q, i, none⟩) (Ne.symm hne) _, OV.off h.words hq h1, OS.outv h.wait hq h2 h3 i u⟩
end
def RRNewP (l : List Ent.En) (gd v : Nat) (t : Int) (ws : List Nat) (w : World) (e : Ending) (w' : World) : Prop :=
  ∃ g Aw cw, e = .returned (.tuple #[.pointer (some ⟨g, 0, none⟩), .int .u32 (Rp.checkS l v t ws)]) ∧ Below w.heap.size w w' ∧ RpRM w' w.heap.size g gd v t ws [] Aw cw none 0
set_option maxRecDepth 100000 in
set_option maxHeartbeats 4000000 in
theorem RRNew_any {F : Nat → Prop} {w : World} {g gv lc vc : Nat} {lA vA : Option Addr} {xs vs : List Value} {D : Dc.Dic} {A : Option Addr} {n c B : Nat} {ws : List Nat} (v : Nat) (hv : v < 4294967296) (t : Int) (h : DRt 77 w F g gv lA lc vA vc xs vs D) (hw : RW w B A n c ws) (hn : n ≤ 1000000) (hwl : ∀ x ∈ ws, x < 4294967296) (hB : B ≤ w.heap.size) :
    Calls Tryz.prog 10 #[.pointer (some ⟨g, 0, none⟩), .agg #[.int .u32 (v : Int), .int .i64 t, .slice A n c]] w (RRNewP D.l g v t ws w) := by
  have b0 := alloc_one w (.cells #[.int .u32 (v : Int), .int .i64 t, .slice A n c] 26)
  have K := Blk.new w 26 #[.int .u32 (v : Int), .int .i64 t, .slice A n c]
  have F0 := K.three
  have hl := hw.len
  subst hl
  have hr1 := RW.below hw (b0.mono hB)
  go_enter Tryz.func10, Tryz.ntmps10
  go_wp2_with (at_builtin; refine wpList_app etw rfl (.tmp 7) (.tmp 9) rfl rfl rfl w.heap.size (OV.none_ _ _ _ _) hr1 (by intro u hu; obtain ⟨x, _, rfl⟩ := List.mem_map.1 hu; rfl) (by omega) (by omega) b0.size ?_; simp only [Nat.zero_add, List.nil_append]; intro A2 c2 w2 o2 g2 _; have b2 : Below (w.alloc (.cells #[.int .u32 (v : Int), .int .i64 t, .slice A ws.length c] 26)).heap.size (w.alloc (.cells #[.int .u32 (v : Int), .int .i64 t, .slice A ws.length c] 26)) w2 := (Below.refl _ _).grown g2 (Nat.le_refl _) (fun k hk => by cases hk); have K2 := K.later b2; have F2 := K2.three; clear F0)
  have K3 := K2.set_ 2 (.slice A2 ws.length c2)
  have b3 := below_step b0 b2 (Nat.le_refl _)
  have d3 : Below w.heap.size w (w2.setCell ⟨w.heap.size, 2, none⟩ (.slice A2 ws.length c2)) := b3.setCell (p := ⟨w.heap.size, 2, none⟩) (Nat.le_refl _) _
  have o3 : OWd (w2.setCell ⟨w.heap.size, 2, none⟩ (.slice A2 ws.length c2)) w.heap.size A2 ws.length c2 ws := OV.off o2 K2 (by decide)
  have hD3 := h.below d3
  clear h hw hr1 o2 g2 b2 b0 K K2 F2 b3
  generalize w2.setCell ⟨w.heap.size, 2, none⟩ (.slice A2 ws.length c2) = w3 at *
  have K3' : Blk w3 w.heap.size 26 #[.int .u32 (v : Int), .int .i64 t, .slice A2 ws.length c2] := K3
  clear K3
  have T := K3'.three
  have t0 := cell_regrown T.1
  have t1 := cell_regrown T.2.1
  have t2 := cell_regrown T.2.2.1
  have CK := fun (w4 : World) (hb : Below w3.heap.size w3 w4) => RRCheck_any v hv t (hD3.below hb) ((o3.rw).below hb) hwl hb.size
  generalize hrr : Rp.checkS D.l v t ws = r at *
  have HRR := Lib.hid hrr
  clear hrr
  replace CK := Lib.hid CK
  clear hD3 T
  refine region_later (by kernel_rfl) ?_
  refine phase_later (by kernel_rfl) 4 (below_drew _) [0, 1, 4, 5, 2] rfl (by kernel_rfl) ?_
  simp only [picks, nth]
  repeat (go_big_quiet_step (fail))
  refine wpQuiet_nil ?_
  refine phase_two 3 6 3 rfl (by kernel_rfl) (by decide) (by decide) ?_ ?_
  · simp only [nth]
    go_wp2_with fail
    have b4 : Below w3.heap.size w3 (w3.drew.alloc (.cells #[.pointer (some ⟨g, 0, none⟩), .int .u32 (v : Int), .int .i64 t, .slice A2 ws.length c2, .slice none 0 0] 87)) := (below_drew w3).trans (alloc_one w3.drew _)
    have KG := Blk.new w3.drew 87 #[.pointer (some ⟨g, 0, none⟩), .int .u32 (v : Int), .int .i64 t, .slice A2 ws.length c2, .slice none 0 0]
    refine behind_since b4 ?_
    refine phase_op 6 2 rfl (by kernel_rfl) (by decide) ?_
    simp only [nth]
    go_wp2_with fail
    refine (CK.out _ b4).mono ?_
    rintro e w5 ⟨rfl, b5⟩
    have b45 := below_step b4 b5 (Nat.le_refl _)
    have d5 := below_step d3 b45 (Nat.le_refl _)
    have KG5 := KG.later b5
    have o5 : OWd w5 w.heap.size A2 ws.length c2 ws := OV.below o3 b45
    have hz3 : w.heap.size ≤ w3.drew.heap.size := d3.size
    go_wp2_with fail
    refine behind_since b45 ?_
    refine phase_later (by kernel_rfl) 0 b45 [7, 8] rfl (by kernel_rfl) ?_
    simp only [picks, nth]
    repeat (go_big_quiet_step (fail))
    refine wpQuiet_nil ?_
    refine phase_end (by kernel_rfl) ?_
    go_wp2_with fail
    go_ret2
    exact ⟨w3.heap.size, A2, c2, by rw [HRR.out]; rfl, d5, ⟨hz3, KG5, o5, OS.none_ _ _ _ _⟩⟩
  · simp only [nth]
    go_wp2_with fail
    refine (CK.out _ (below_drew w3)).mono ?_
    rintro e w5 ⟨rfl, b5⟩
    have b35 : Below w3.heap.size w3 w5 := (below_drew w3).trans b5
    go_wp2_with fail
    refine behind_since b35 ?_
    refine phase_op 3 2 rfl (by kernel_rfl) (by decide) ?_
    simp only [nth]
    have b4 := alloc_one w5 (.cells #[.pointer (some ⟨g, 0, none⟩), .int .u32 (v : Int), .int .i64 t, .slice A2 ws.length c2, .slice none 0 0] 87)
    have KG5 := Blk.new w5 87 #[.pointer (some ⟨g, 0, none⟩), .int .u32 (v : Int), .int .i64 t, .slice A2 ws.length c2, .slice none 0 0]
    have b45 := below_step b35 b4 (Nat.le_refl _)
    have d5 := below_step d3 b45 (Nat.le_refl _)
    have hz3 : w.heap.size ≤ w5.heap.size := Nat.le_trans d3.size b35.size
    go_wp2_with fail
    refine behind_since b45 ?_
    refine phase_later (by kernel_rfl) 0 b45 [7, 8] rfl (by kernel_rfl) ?_
    simp only [picks, nth]
    repeat (go_big_quiet_step (fail))
    refine wpQuiet_nil ?_
    refine phase_end (by kernel_rfl) ?_
    have o5 : OWd (w5.alloc (.cells #[.pointer (some ⟨g, 0, none⟩), .int .u32 (v : Int), .int .i64 t, .slice A2 ws.length c2, .slice none 0 0] 87)) w.heap.size A2 ws.length c2 ws := OV.below o3 b45
    go_wp2_with fail
    go_ret2
    exact ⟨w5.heap.size, A2, c2, by rw [HRR.out]; rfl, d5, ⟨hz3, KG5, o5, OS.none_ _ _ _ _⟩⟩
set_option maxHeartbeats 1000000 in
theorem RRId_any {w : World} {g : Nat} {t' : TypeId} {a b c d : Value} (v : Nat) (hv : v < 4294967296) (hb : Cob.bad v = false) (h : Blk w g t' #[a, .int .u32 (v : Int), b, c, d]) : Calls Tryz.prog 13 #[.pointer (some ⟨g, 0, none⟩)] w fun e w' => e = .returned (.int .i64 (Cob.pdo v : Int)) ∧ Below w.heap.size w w' := by
  have F := h.five
  have SP := Lib.hid (fun w => RCSplit_ok v hv hb w)
  have hpd : Cob.pdo v = if Cob.off v = true then 0 else Cob.id v := rfl
  rw [hpd]
  generalize Cob.noR v = nr at *
  generalize Cob.id v = i at *
  cases ho : Cob.off v
  all_goals
    rw [ho] at SP
    simp only [Bool.false_eq_true, if_false, if_true]
    clear ho hpd
    go_enter Tryz.func13, Tryz.ntmps13
    go_wp2_with fail
    refine (SP.out _).mono ?_
    rintro e w1 ⟨rfl, b1⟩
    first
      | have K := (Blk.new w1 92 #[.bool false, .bool nr, .int .i64 (i : Int)]).three
        go_wp2_with fail
        go_ret
        exact ⟨rfl, below_step b1 (alloc_one _ _) (Nat.le_refl _)⟩
      | have K := (Blk.new w1 92 #[.bool true, .bool nr, .int .i64 (i : Int)]).three
        go_wp2_with fail
        go_ret
        exact ⟨rfl, below_step b1 (alloc_one _ _) (Nat.le_refl _)⟩
end Go.Proofs.YtkddillihhjghaaGreat
/-
  Walks: Receive and Pulse of the reference of layer 31.
  Conditions: none.
-/
namespace Go.Proofs.YtkddillihhjghaaGreat
set_option linter.unusedVariables false
set_option linter.unusedSimpArgs false
open Go.RowKit Go.Sort
/-- What the reference's Receive hands back. -/
def RRecvP (r : List Dc.Vl × Int × List Dc.Vl) (base g gd v : Nat) (t : Int) (ws : List Nat) (Aw : Option Addr) (cw : Nat) (w : World) (e : Ending) (w' : World) : Prop :=
  ∃ A1 c1, e = .returned (.agg #[.slice A1 r.1.length c1, .int .i64 r.2.1]) ∧ OS (VlW w' w.heap.size) w' w.heap.size 64 3 A1 r.1.length c1 r.1 ∧ Mv (fun q => q = g) w w' ∧ ∃ Av cv, RpRM w' base g gd v t ws r.2.2 Aw cw Av cv
theorem rrecv_none {r : List Dc.Vl × Int × List Dc.Vl} {base g gd v : Nat} {t : Int} {ws : List Nat} {waits : List Dc.Vl} {Aw Av : Option Addr} {cw cv : Nat} {w w' : World} {z : Int} (hr : r = ([], z, waits)) (h : RpRM w base g gd v t ws waits Aw cw Av cv) (hb : Below w.heap.size w w') :
    RRecvP r base g gd v t ws Aw cw w (.returned (.agg #[.slice none 0 0, .int .i64 z])) w' := by
  subst hr
  exact ⟨none, 0, rfl, OS.none_ _ _ _ _, Mv.of_new hb _, Av, cv, h.below hb⟩
set_option maxRecDepth 100000 in
set_option maxHeartbeats 4000000 in
/-- A frame that is not the PDO's. -/
theorem RRecv_off {w : World} {base g gd v : Nat} {t : Int} {ws : List Nat} {waits : List Dc.Vl} {Aw Av : Option Addr} {cw cv : Nat} (l : List Ent.En) (hv : v < 4294967296) (hbad : Cob.bad v = false) (h : RpRM w base g gd v t ws waits Aw cw Av cv) (fid : Int) (rem : Bool) {A : Option Addr} {n c : Nat} (b : List UInt8) (hoff : Cob.pdo v = 0 ∨ fid ≠ (Cob.pdo v : Int) ∨ rem = true ∨ ws.length = 0) :
    Calls Tryz.prog 15 #[.pointer (some ⟨g, 0, none⟩), .agg #[.int .i64 fid, .bool rem, .slice A n c]] w (RRecvP (Rp.recvS l v t ws waits fid rem b) base g gd v t ws Aw cw w) := by
  have HR := Lib.hid (recv_off (l := l) (v := v) (t := t) (ws := ws) (waits := waits) (fid := fid) (rem := rem) (b := b) hoff)
  have b0 := alloc_two w (.cells #[.int .i64 fid, .bool rem, .slice A n c] 51) (.cells #[.slice none 0 0, .int .i64 0] 59)
  have KF := (Blk.new w 51 #[.int .i64 fid, .bool rem, .slice A n c]).alloc (.cells #[.slice none 0 0, .int .i64 0] 59)
  have KO := Blk.new (w.alloc (.cells #[.int .i64 fid, .bool rem, .slice A n c] 51)) 59 #[.slice none 0 0, .int .i64 0]
  rw [World.size_alloc] at KO
  have KG := h.blk.later b0
  have HH := Lib.hid h
  have f0 := cell_regrown KF.three.1
  have f1 := cell_regrown KF.three.2.1
  have g2 := cell_regrown KG.five.1.2.2.2.1
  have ID := Lib.hid (fun d os => Calls.regrown_of (RRId_any v hv hbad (KG.later (below_regrown _ d os))))
  clear h
  generalize Rp.recvS l v t ws waits fid rem b = r at *
  have hc : (Cob.pdo v : Int) = 0 ∨ ((Cob.pdo v : Int) ≠ 0 ∧ fid ≠ (Cob.pdo v : Int)) ∨ ((Cob.pdo v : Int) ≠ 0 ∧ fid = (Cob.pdo v : Int) ∧ rem = true) ∨ ((Cob.pdo v : Int) ≠ 0 ∧ fid = (Cob.pdo v : Int) ∧ rem = false ∧ (ws.length : Int) = 0) := by
    by_cases h1 : Cob.pdo v = 0
    · exact .inl (by omega)
    · by_cases h2 : fid = (Cob.pdo v : Int)
      · cases rem
        · right; right; right
          refine ⟨by omega, h2, rfl, ?_⟩
          rcases hoff with h | h | h | h
          · exact absurd h h1
          · exact absurd h2 h
          · cases h
          · omega
        · exact .inr (.inr (.inl ⟨by omega, h2, rfl⟩))
      · exact .inr (.inl ⟨by omega, h2⟩)
  clear hoff
  generalize (Cob.pdo v : Int) = P at *
  rcases hc with rfl | ⟨h1, h2⟩ | ⟨h1, rfl, rfl⟩ | ⟨h1, rfl, rfl, h4⟩
  · go_enter Tryz.func15, Tryz.ntmps15
    go_wp2_with fail
    refine wp_region_quiet_below (by kernel_rfl) (by kernel_rfl) ?_
    repeat (go_big_quiet_step (with_reducible exact ID.out _ _))
    refine wpQuiet_nil ?_
    intro _ hw'
    obtain ⟨⟨dq, osq⟩, hw''⟩ := hw'
    subst hw''
    dsimp only
    have bq := below_regrown ((w.alloc (.cells #[.int .i64 fid, .bool rem, .slice A n c] 51)).alloc (.cells #[.slice none 0 0, .int .i64 0] 59)) dq osq
    have KQ := KO.later bq
    have dq' := below_step b0 bq (Nat.le_refl _)
    generalize grow (redrawn ((w.alloc (.cells #[.int .i64 fid, .bool rem, .slice A n c] 51)).alloc (.cells #[.slice none 0 0, .int .i64 0] 59)) dq) osq = wq at *
    clear f0 f1 g2 ID bq KO KF KG
    have FQ := KQ.two
    go_wp2_with fail
    have R := (KQ.store2 (.slice none 0 0) (.int .i64 0)).two
    exact bodyPost_ret (v := .agg #[.slice none 0 0, .int .i64 0]) (by simp [results, Tryz.results15, go_sem, R]) rfl (rrecv_none HR.out HH.out (below_set2 dq' (by omega) _ _ _ _))
  · have e1 : (P == 0) = false := by simpa using h1
    have e2 : (fid != P) = true := by simpa using h2
    go_enter Tryz.func15, Tryz.ntmps15
    go_wp2_with fail
    refine wp_region_quiet_below (by kernel_rfl) (by kernel_rfl) ?_
    repeat (go_big_quiet_step (with_reducible exact ID.out _ _))
    refine wpQuiet_nil ?_
    intro _ hw'
    obtain ⟨⟨dq, osq⟩, hw''⟩ := hw'
    subst hw''
    dsimp only
    have bq := below_regrown ((w.alloc (.cells #[.int .i64 fid, .bool rem, .slice A n c] 51)).alloc (.cells #[.slice none 0 0, .int .i64 0] 59)) dq osq
    have KQ := KO.later bq
    have dq' := below_step b0 bq (Nat.le_refl _)
    generalize grow (redrawn ((w.alloc (.cells #[.int .i64 fid, .bool rem, .slice A n c] 51)).alloc (.cells #[.slice none 0 0, .int .i64 0] 59)) dq) osq = wq at *
    clear f0 f1 g2 ID bq KO KF KG
    have FQ := KQ.two
    go_wp2_with fail
    have R := (KQ.store2 (.slice none 0 0) (.int .i64 0)).two
    exact bodyPost_ret (v := .agg #[.slice none 0 0, .int .i64 0]) (by simp [results, Tryz.results15, go_sem, R]) rfl (rrecv_none HR.out HH.out (below_set2 dq' (by omega) _ _ _ _))
  · have e1 : (fid == 0) = false := by simpa using h1
    have e2 : (fid != fid) = false := by simp
    go_enter Tryz.func15, Tryz.ntmps15
    go_wp2_with fail
    refine wp_region_quiet_below (by kernel_rfl) (by kernel_rfl) ?_
    repeat (go_big_quiet_step (with_reducible exact ID.out _ _))
    refine wpQuiet_nil ?_
    intro _ hw'
    obtain ⟨⟨dq, osq⟩, hw''⟩ := hw'
    subst hw''
    dsimp only
    have bq := below_regrown ((w.alloc (.cells #[.int .i64 fid, .bool true, .slice A n c] 51)).alloc (.cells #[.slice none 0 0, .int .i64 0] 59)) dq osq
    have KQ := KO.later bq
    have dq' := below_step b0 bq (Nat.le_refl _)
    generalize grow (redrawn ((w.alloc (.cells #[.int .i64 fid, .bool true, .slice A n c] 51)).alloc (.cells #[.slice none 0 0, .int .i64 0] 59)) dq) osq = wq at *
    clear f0 f1 g2 ID bq KO KF KG
    have FQ := KQ.two
    go_wp2_with fail
    have R := (KQ.store2 (.slice none 0 0) (.int .i64 0)).two
    exact bodyPost_ret (v := .agg #[.slice none 0 0, .int .i64 0]) (by simp [results, Tryz.results15, go_sem, R]) rfl (rrecv_none HR.out HH.out (below_set2 dq' (by omega) _ _ _ _))
  · have e1 : (fid == 0) = false := by simpa using h1
    have e2 : (fid != fid) = false := by simp
    have e3 : ((ws.length : Int) == 0) = true := by simpa using h4
    go_enter Tryz.func15, Tryz.ntmps15
    go_wp2_with fail
    refine wp_region_quiet_below (by kernel_rfl) (by kernel_rfl) ?_
    repeat (go_big_quiet_step (with_reducible exact ID.out _ _))
    refine wpQuiet_nil ?_
    intro _ hw'
    obtain ⟨⟨dq, osq⟩, hw''⟩ := hw'
    subst hw''
    dsimp only
    have bq := below_regrown ((w.alloc (.cells #[.int .i64 fid, .bool false, .slice A n c] 51)).alloc (.cells #[.slice none 0 0, .int .i64 0] 59)) dq osq
    have KQ := KO.later bq
    have dq' := below_step b0 bq (Nat.le_refl _)
    generalize grow (redrawn ((w.alloc (.cells #[.int .i64 fid, .bool false, .slice A n c] 51)).alloc (.cells #[.slice none 0 0, .int .i64 0] 59)) dq) osq = wq at *
    clear f0 f1 g2 ID bq KO KF KG
    have FQ := KQ.two
    go_wp2_with fail
    have R := (KQ.store2 (.slice none 0 0) (.int .i64 0)).two
    exact bodyPost_ret (v := .agg #[.slice none 0 0, .int .i64 0]) (by simp [results, Tryz.results15, go_sem, R]) rfl (rrecv_none HR.out HH.out (below_set2 dq' (by omega) _ _ _ _))
set_option maxRecDepth 100000 in
set_option maxHeartbeats 8000000 in
/-- A frame that is the PDO's. -/
theorem RRecv_on {F : Nat → Prop} {w : World} {base g gd v : Nat} {t : Int} {ws : List Nat} {waits : List Dc.Vl} {Aw Av : Option Addr} {cw cv : Nat} {gv lc vc : Nat} {lA vA : Option Addr} {xs vs : List Value} {D : Dc.Dic} (hv : v < 4294967296) (hbad : Cob.bad v = false) (h : RpRM w base g gd v t ws waits Aw cw Av cv) (hD : DRt 77 w F gd gv lA lc vA vc xs vs D) (hwl : ∀ x ∈ ws, x < 4294967296) {A : Option Addr} {n c B : Nat} {b : List UInt8} (hr : RB w B A n c b) (hB : B ≤ w.heap.size) (hn : n ≤ 1000000) (h1 : Cob.pdo v ≠ 0) (h4 : ws.length ≠ 0) :
    Calls Tryz.prog 15 #[.pointer (some ⟨g, 0, none⟩), .agg #[.int .i64 (Cob.pdo v : Int), .bool false, .slice A n c]] w (RRecvP (Rp.recvS D.l v t ws waits (Cob.pdo v : Int) false b) base g gd v t ws Aw cw w) := by
  have hrs : Rp.recvS D.l v t ws waits (Cob.pdo v : Int) false b = if (Mp.scatterS D.l ws b).2 = 0 then (if t ≤ 240 then ([], 0, (Mp.scatterS D.l ws b).1) else ((Mp.scatterS D.l ws b).1, 0, waits))
      else if (Mp.scatterS D.l ws b).2 = 2 then ([], 33296, waits) else if (Mp.scatterS D.l ws b).2 = 9 then ([], 25344, waits) else ([], 0, waits) := by
    unfold Rp.recvS
    rw [if_neg (by simp [h1, h4])]
  have b0 := alloc_two w (.cells #[.int .i64 (Cob.pdo v : Int), .bool false, .slice A n c] 51) (.cells #[.slice none 0 0, .int .i64 0] 59)
  have KF := (Blk.new w 51 #[.int .i64 (Cob.pdo v : Int), .bool false, .slice A n c]).alloc (.cells #[.slice none 0 0, .int .i64 0] 59)
  have KO := Blk.new (w.alloc (.cells #[.int .i64 (Cob.pdo v : Int), .bool false, .slice A n c] 51)) 59 #[.slice none 0 0, .int .i64 0]
  rw [World.size_alloc] at KO
  have KG := h.blk.later b0
  have f0 := cell_regrown KF.three.1
  have f1 := cell_regrown KF.three.2.1
  have g2 := cell_regrown KG.five.1.2.2.2.1
  have ID := Lib.hid (fun d os => Calls.regrown_of (RRId_any v hv hbad (KG.later (below_regrown _ d os))))
  have hgl := h.blk.lt
  have hbase : base ≤ w.heap.size := by have := h.gb; omega
  have SC := fun w' (hb : Below w.heap.size w w') => RScatter_any (hD.below hb) ((h.words.rw).below hb) hwl hb.size (hr.below (hb.mono hB)) hn (Nat.le_trans hB hb.size)
  have e1 : ((Cob.pdo v : Int) == 0) = false := by rw [beq_eq_false_iff_ne]; omega
  have e2 : ((Cob.pdo v : Int) != (Cob.pdo v : Int)) = false := by simp
  have e3 : ((ws.length : Int) == 0) = false := by rw [beq_eq_false_iff_ne]; omega
  generalize Rp.recvS D.l v t ws waits (Cob.pdo v : Int) false b = r at *
  generalize Mp.scatterS D.l ws b = sc at *
  obtain ⟨sl, se⟩ := sc
  unfold ScatPost at SC
  dsimp only at SC hrs
  have HRS := Lib.hid hrs
  have HH := Lib.hid h
  replace SC := Lib.hid SC
  generalize (Cob.pdo v : Int) = P at *
  clear hrs h hD hr h1 h4
  go_enter Tryz.func15, Tryz.ntmps15
  go_wp2_with fail
  refine wp_region_quiet_below (by kernel_rfl) (by kernel_rfl) ?_
  repeat (go_big_quiet_step (with_reducible exact ID.out _ _))
  refine wpQuiet_nil ?_
  intro _ hw'
  obtain ⟨⟨dq, osq⟩, hw''⟩ := hw'
  subst hw''
  dsimp only
  have bq := below_regrown ((w.alloc (.cells #[.int .i64 P, .bool false, .slice A n c] 51)).alloc (.cells #[.slice none 0 0, .int .i64 0] 59)) dq osq
  have KQ := KO.later bq
  have KFq := KF.later bq
  have KGq := KG.later bq
  have dq' := below_step b0 bq (Nat.le_refl _)
  generalize grow (redrawn ((w.alloc (.cells #[.int .i64 P, .bool false, .slice A n c] 51)).alloc (.cells #[.slice none 0 0, .int .i64 0] 59)) dq) osq = wq at *
  clear f0 f1 g2 ID bq KO KF KG b0
  have f2 := cell_regrown KFq.three.2.2.1
  have g0 := cell_regrown KGq.five.1.1
  have g2 := cell_regrown KGq.five.1.2.2.2.1
  go_wp2_with fail
  refine region_later (by kernel_rfl) ?_
  refine phase_later (by kernel_rfl) 6 (below_drew _) [0, 4, 9, 1, 5, 10, 2, 6, 3, 7, 8] rfl (by kernel_rfl) ?_
  simp only [picks, nth]
  repeat (go_big_quiet_step (fail))
  refine wpQuiet_nil ?_
  refine phase_op 11 5 rfl (by kernel_rfl) (by decide) ?_
  simp only [nth]
  go_wp2_with fail
  refine (SC.out _ (below_step dq' (below_drew _) (Nat.le_refl _))).mono ?_
  rintro e w1 ⟨A1, c1, rfl, o1, b1⟩
  have b1' : Below wq.heap.size wq w1 := (below_drew wq).trans b1
  have d1 := below_step dq' b1' (Nat.le_refl _)
  go_wp2_with fail
  refine behind_later b1' ?_
  refine phase_later (by kernel_rfl) 0 (Below.refl _ _) [12, 13, 14, 15, 16] rfl (by kernel_rfl) ?_
  simp only [picks, nth]
  repeat (go_big_quiet_step (fail))
  refine wpQuiet_nil ?_
  refine phase_end (by kernel_rfl) ?_
  have KO1 := KQ.later b1'
  have KG1 := KGq.later b1'
  have H1 := HH.out.below d1
  have o1' := o1.more (base' := w.heap.size) dq'.size (R' := VlW w1 w.heap.size) fun _ _ h => h.more dq'.size
  clear f2 g0 g2 KQ KFq KGq o1
  have hgo : w.heap.size + 1 ≠ g := by omega
  have FO := KO1.two
  have GO := KG1.five
  by_cases hse : se = 0
  · subst hse
    have hrs := HRS.out
    simp only [if_true] at hrs
    by_cases ht : t ≤ 240
    · rw [if_pos ht] at hrs
      have HR := Lib.hid hrs; clear hrs
      have H2 := H1.hold (new := sl) (A1 := A1) (c1 := c1) (by obtain ⟨xs, k1, k2⟩ := o1'; exact ⟨xs, k1.more hbase, k2.imp fun _ _ h => h.more hbase⟩)
      have KO2 := KO1.far (p := ⟨g, 4, none⟩) hgo (.slice A1 sl.length c1)
      have FO2 := KO2.two
      have M2 : Mv (fun q => q = g) w (w1.setCell ⟨g, 4, none⟩ (.slice A1 sl.length c1)) := (Mv.of_new d1 _).trans (Mv.setCell w1 ⟨g, 4, none⟩ _) fun b _ e => e
      have H3 := (H2.out KO2 hgo (by decide) (by decide) (by decide) 0 (.slice none 0 0)).out (KO2.set_ 0 (.slice none 0 0)) hgo (by decide) (by decide) (by decide) 1 (.int .i64 0)
      have M3 := (M2.out (q := w.heap.size + 1) (by omega) 0 (.slice none 0 0)).out (q := w.heap.size + 1) (by omega) 1 (.int .i64 0)
      have R := (KO2.store2 (.slice none 0 0) (.int .i64 0)).two
      go_wp2_with fail
      exact bodyPost_ret (v := .agg #[.slice none 0 0, .int .i64 0]) (by simp [results, Tryz.results15, go_sem, R]) rfl (by rw [HR.out]; exact ⟨none, 0, rfl, OS.none_ _ _ _ _, M3, A1, c1, H3⟩)
    · rw [if_neg ht] at hrs
      have HR := Lib.hid hrs; clear hrs
      have M3 := ((Mv.of_new d1 (fun q => q = g)).out (q := w.heap.size + 1) (by omega) 0 (.slice A1 sl.length c1)).out (q := w.heap.size + 1) (by omega) 1 (.int .i64 0)
      have R := (KO1.store2 (.slice A1 sl.length c1) (.int .i64 0)).two
      have o3 := (o1'.outv KO1 (by decide) (by decide) 0 (.slice A1 sl.length c1)).outv (KO1.set_ 0 (.slice A1 sl.length c1)) (by decide) (by decide) 1 (.int .i64 0)
      have H3 : RpRM ((w1.setCell ⟨w.heap.size + 1, 0, none⟩ (.slice A1 sl.length c1)).setCell ⟨w.heap.size + 1, 1, none⟩ (.int .i64 0)) base g gd v t ws waits Aw cw Av cv := HH.out.below (below_set2 d1 (by omega) _ _ _ _)
      go_wp2_with fail
      exact bodyPost_ret (v := .agg #[.slice A1 sl.length c1, .int .i64 0]) (by simp [results, Tryz.results15, go_sem, R]) rfl (by rw [HR.out]; exact ⟨A1, c1, rfl, o3, M3, Av, cv, H3⟩)
  · have hrs := HRS.out
    have z1 : (se == 0) = false := by simpa using hse
    have z1' : (se != 0) = true := by simpa using hse
    simp only [hse, if_false] at hrs
    by_cases h2 : se = 2
    · subst h2
      simp only [if_true] at hrs
      have HR := Lib.hid hrs; clear hrs
      have R := (KO1.store2 (.slice none 0 0) (.int .i64 33296)).two
      clear GO
      go_wp2_with fail
      exact bodyPost_ret (v := .agg #[.slice none 0 0, .int .i64 33296]) (by simp [results, Tryz.results15, go_sem, R]) rfl (rrecv_none HR.out HH.out (below_set2 d1 (by omega) _ _ _ _))
    · have z2 : (se == 2) = false := by simpa using h2
      simp only [h2, if_false] at hrs
      by_cases h9 : se = 9
      · subst h9
        simp only [if_true] at hrs
        have HR := Lib.hid hrs; clear hrs
        have R := (KO1.store2 (.slice none 0 0) (.int .i64 25344)).two
        clear GO
        go_wp2_with fail
        exact bodyPost_ret (v := .agg #[.slice none 0 0, .int .i64 25344]) (by simp [results, Tryz.results15, go_sem, R]) rfl (rrecv_none HR.out HH.out (below_set2 d1 (by omega) _ _ _ _))
      · have z9 : (se == 9) = false := by simpa using h9
        simp only [h9, if_false] at hrs
        replace hse := Lib.hid hse; replace h2 := Lib.hid h2; replace h9 := Lib.hid h9
        have HR := Lib.hid hrs; clear hrs
        have R := (KO1.store2 (.slice none 0 0) (.int .i64 0)).two
        clear GO
        go_wp2_with fail
        exact bodyPost_ret (v := .agg #[.slice none 0 0, .int .i64 0]) (by simp [results, Tryz.results15, go_sem, R]) rfl (rrecv_none HR.out HH.out (below_set2 d1 (by omega) _ _ _ _))
def RPulseP (waits : List Dc.Vl) (base g gd v : Nat) (t : Int) (ws : List Nat) (Aw : Option Addr) (cw : Nat) (w : World) (e : Ending) (w' : World) : Prop :=
  ∃ A1 c1, e = .returned (.slice A1 waits.length c1) ∧ OS (VlW w' base) w' base 64 3 A1 waits.length c1 waits ∧ Mv (fun q => q = g) w w' ∧ RpRM w' base g gd v t ws [] Aw cw none 0
set_option maxHeartbeats 1000000 in
theorem RPulse_any {w : World} {base g gd v : Nat} {t : Int} {ws : List Nat} {waits : List Dc.Vl} {Aw Av : Option Addr} {cw cv : Nat} (h : RpRM w base g gd v t ws waits Aw cw Av cv) : Calls Tryz.prog 19 #[.pointer (some ⟨g, 0, none⟩)] w (RPulseP waits base g gd v t ws Aw cw w) := by
  have F := h.blk.five
  have H2 := h.hold (new := []) (A1 := none) (c1 := 0) (OS.none_ _ _ _ _)
  have o2 := OS.outv h.wait h.blk (by decide) (by decide) 4 (.slice none 0 0)
  have M2 : Mv (fun q => q = g) w (w.setCell ⟨g, 4, none⟩ (.slice none 0 0)) := Mv.setCell w ⟨g, 4, none⟩ _
  clear h
  go_enter Tryz.func19, Tryz.ntmps19
  go_wp2_with fail
  go_ret
  exact ⟨Av, cv, rfl, o2, M2, H2⟩
end Go.Proofs.YtkddillihhjghaaGreat
/-
  Walks: Values of layer 15, and of its reference.
  Conditions: none.
-/
namespace Go.Proofs.YtkddillihhjghaaGreat.Dc
set_option linter.unusedVariables false
set_option linter.unusedSimpArgs false
/-- The first k values. -/
def valuesK (D : Dic) (k : Nat) : List Vl := (List.range k).map fun k => ⟨(D.l.getD k en0).index, (D.l.getD k en0).sub, D.v.getD k []⟩
theorem valuesK_step (D : Dic) (k : Nat) : valuesK D (k + 1) = valuesK D k ++ [⟨(D.l.getD k en0).index, (D.l.getD k en0).sub, D.v.getD k []⟩] := by
  unfold valuesK
  rw [List.range_succ, List.map_append]
  rfl
theorem valuesK_len (D : Dic) (k : Nat) : (valuesK D k).length = k := by unfold valuesK; simp
theorem valuesS_len (D : Dic) : (valuesS D).length = D.l.length := valuesK_len D D.l.length
end Go.Proofs.YtkddillihhjghaaGreat.Dc
namespace Go.Proofs.YtkddillihhjghaaGreat
set_option linter.unusedVariables false
set_option linter.unusedSimpArgs false
open Go.RowKit
/-- All values, in new memory. -/
def ValsP (D : Dc.Dic) (w : World) (e : Ending) (w' : World) : Prop := ∃ A c, e = .returned (.slice A D.l.length c) ∧ OS (VlW w' w.heap.size) w' w.heap.size 64 3 A D.l.length c (Dc.valuesS D) ∧ Below w.heap.size w w'
theorem Mp_getD {L : List (List UInt8)} (h : ∀ v ∈ L, v.length ≤ 1000000) (k : Nat) : (L.getD k []).length ≤ 1000000 := by
  rw [List.getD_eq_getElem?_getD]
  cases hi : L[k]? with
  | none => simp
  | some x => exact h _ (List.mem_of_getElem? hi)
set_option maxRecDepth 100000 in
set_option maxHeartbeats 4000000 in
theorem dVals_any {F : Nat → Prop} {w : World} {g gv lc vc : Nat} {la : Addr} {vA : Option Addr} {xs vs : List Value} {D : Dc.Dic} (h : DRt 71 w F g gv (some la) lc vA vc xs vs D) (hv : ∀ v ∈ D.v, v.length ≤ 1000000) : Calls Tryz.prog 21 #[.pointer (some ⟨g, 0, none⟩)] w (ValsP D w) := by
  obtain ⟨t0, t1⟩ := h.two
  have T0 := cell_regrown t0
  have T1 := cell_regrown t1
  have HLC := Lib.hid h.lcap
  have hcap : D.l.length ≤ vc ∧ vc ≤ 9223372036854775807 := ⟨h.own.rv.le, h.own.rv.cap⟩
  obtain ⟨hcap1, hcap2⟩ := hcap
  obtain ⟨hlc1, hlc2⟩ := h.lcap
  have hgl := h.blk.lt
  have h96 := h.few
  have LN := Lib.hid (dLen_any h)
  go_enter Tryz.func21, Tryz.ntmps21
  go_wp2_with fail
  refine (LN.out).mono ?_
  rintro e w2 ⟨rfl, rfl⟩
  go_wp2_with fail
  go_loopw [3, 7] (fun v i wr => ∃ (k : Nat) (A1 : Option Addr) (c1 : Nat), k ≤ D.l.length ∧ i = .int .i64 k ∧ v = .slice A1 k c1 ∧ OS (VlW wr w.heap.size) wr w.heap.size 64 3 A1 k c1 (Dc.valuesK D k) ∧ Below w.heap.size w wr) (fun _ i _ => D.l.length - (intOf i).toNat)
  case atStart => exact ⟨0, _, _, by omega, rfl, rfl, OS.none_ _ _ _ _, Below.refl _ _⟩
  case round =>
    obtain ⟨k, A1, c1, hk, rfl, rfl, os, bb⟩ := hrel
    have t0' := (bb.cell (p := ⟨g, 0, none⟩) hgl).trans t0
    by_cases hlt : k < D.l.length
    · obtain ⟨b, oo, A0, n0, c0, hA0, hbB, hr0, hc⟩ := h.entry hlt
      obtain ⟨A2, n2, c2, hA2, _, hg, hr2, hcell, _⟩ := h.value hlt
      have hnx := Dc.valuesK_step D k
      have hln := Mp_getD hv k
      have hl2 := hr2.len
      have q0 := cell_regrown (hc 0 _ rfl)
      have q1 := cell_regrown (hc 1 _ rfl)
      have q2 := cell_regrown hcell
      simp only [Nat.add_zero] at q0
      try dsimp only at q0 q1
      injection hA0 with hA0
      subst hA0 hA2
      generalize D.v.getD k [] = dat at *
      generalize (D.l.getD k Dc.en0).index = ixx at *
      generalize (D.l.getD k Dc.en0).sub = sbx at *
      subst hl2
      have HN := Lib.hid hnx
      have OWN := Lib.hid (fun (w2 : World) (hb : Below w.heap.size w w2) => down_any w2 (hr2.below hb) (by omega) hb.size)
      have i0 : (0 : Int) ≤ (k : Int) := by omega
      have i1 : (k : Int) < (D.l.length : Int) := by omega
      have bd := bb.trans ((below_drew wr).mono bb.size)
      clear hnx hc hr0 hr2 hcell
      go_wp2_with fail
      refine region_since (w0 := w) (by kernel_rfl) ?_
      refine phase_later (by kernel_rfl) 5 bd [0, 1, 5, 9, 13, 17, 21, 2, 10, 18, 3, 11, 19, 4, 12, 20, 6, 14, 22, 7, 15, 23, 8, 16] rfl (by kernel_rfl) ?_
      simp only [picks, nth]
      repeat (go_big_quiet_step (fail))
      refine wpQuiet_nil ?_
      refine phase_op 24 4 rfl (by kernel_rfl) (by decide) ?_
      simp only [nth]
      go_wp2_with fail
      refine (OWN.out _ bd).mono ?_
      rintro e w3 ⟨A3, c3, rfl, o3, b3⟩
      skip
      have b3' : Below wr.heap.size wr w3 := (below_drew wr).trans b3
      have d3 := below_step bb b3' (Nat.le_refl _)
      have os3 := os.below b3' (R' := VlW w3 w.heap.size) fun _ _ h => h.below b3'
      have ow3 := (o3.ow).more (base' := w.heap.size) bd.size
      clear os o3
      go_wp2_with fail
      refine behind_since d3 ?_
      refine phase_later (by kernel_rfl) 3 d3 [25] rfl (by kernel_rfl) ?_
      simp only [picks, nth]
      repeat (go_big_quiet_step (fail))
      refine wpQuiet_nil ?_
      refine phase_op 26 2 rfl (by kernel_rfl) (by decide) ?_
      simp only [nth]
      have b4 := alloc_one w3 (.cells #[.int .i64 ixx, .int .i64 sbx, .slice A3 dat.length c3] 64)
      have d4 := below_step d3 b4 (Nat.le_refl _)
      have os4 := os3.below b4 (R' := VlW _ w.heap.size) fun _ _ h => h.below b4
      have hnew := RV.new w3 64 (size := 3) (cs := [.int .i64 ixx, .int .i64 sbx, .slice A3 dat.length c3]) rfl
      have hf4 : VlW (w3.alloc (.cells #[.int .i64 ixx, .int .i64 sbx, .slice A3 dat.length c3] 64)) w.heap.size ⟨ixx, sbx, dat⟩ [.int .i64 ixx, .int .i64 sbx, .slice A3 dat.length c3] := ⟨A3, dat.length, c3, rfl, ow3.below b4⟩
      go_wp2_with fail
      refine behind_since d4 ?_
      refine phase_op 27 1 rfl (by kernel_rfl) (by decide) ?_
      simp only [nth]
      go_wp2_with (at_builtin; refine wpList_apps2 etvl (fun w1 => VlW w1 w.heap.size) rfl (.tmp 10) (.tmp 36) rfl rfl rfl w.heap.size os4 ⟨ixx, sbx, dat⟩ hnew hf4 (value_oneCell _ _ _ _ _) (by omega) (by omega) d4.size (fun w1 A1 n1 c1 xs h g f cs hf => hf.beside h (by decide) g) ?_; intro A5 c5 w5 o5 b5 g5 _)
      have d5 := d4.trans b5
      refine behind_since d5 ?_
      refine phase_later (by kernel_rfl) 0 d5 [28] rfl (by kernel_rfl) ?_
      simp only [picks, nth]
      repeat (go_big_quiet_step (fail))
      refine wpQuiet_nil ?_
      refine phase_end (by kernel_rfl) ?_
      clear os3 os4 hnew hf4
      go_wp2_with fail
      go_roundw
      case rel => exact ⟨k + 1, A5, c5, by omega, by go_num, rfl, by rw [HN.out]; exact o5, d5⟩
      case measure => simp [intOf] <;> omega
    · obtain rfl : k = D.l.length := by omega
      go_wp2_with fail
      go_ret
      exact ⟨A1, c1, rfl, os, bb⟩
set_option maxRecDepth 100000 in
set_option maxHeartbeats 4000000 in
theorem rVals_any {F : Nat → Prop} {w : World} {g gv lc vc : Nat} {lA : Option Addr} {vA : Option Addr} {xs vs : List Value} {D : Dc.Dic} (h : DRt 77 w F g gv lA lc vA vc xs vs D) (hv : ∀ v ∈ D.v, v.length ≤ 1000000) : Calls Tryz.prog 22 #[.pointer (some ⟨g, 0, none⟩)] w (ValsP D w) := by
  obtain ⟨t0, t1⟩ := h.two
  have T0 := cell_regrown t0
  have T1 := cell_regrown t1
  have HLC := Lib.hid h.lcap
  have hcap : D.l.length ≤ vc ∧ vc ≤ 9223372036854775807 := ⟨h.own.rv.le, h.own.rv.cap⟩
  obtain ⟨hcap1, hcap2⟩ := hcap
  obtain ⟨hlc1, hlc2⟩ := h.lcap
  have hgl := h.blk.lt
  have h96 := h.few
  go_enter Tryz.func22, Tryz.ntmps22
  go_wp2_with fail
  go_loopw [3, 4] (fun v i wr => ∃ (k : Nat) (A1 : Option Addr) (c1 : Nat), k ≤ D.l.length ∧ i = .int .i64 k ∧ v = .slice A1 k c1 ∧ OS (VlW wr w.heap.size) wr w.heap.size 64 3 A1 k c1 (Dc.valuesK D k) ∧ Below w.heap.size w wr) (fun _ i _ => D.l.length - (intOf i).toNat)
  case atStart => exact ⟨0, _, _, by omega, rfl, rfl, OS.none_ _ _ _ _, Below.refl _ _⟩
  case round =>
    obtain ⟨k, A1, c1, hk, rfl, rfl, os, bb⟩ := hrel
    have t0' := (bb.cell (p := ⟨g, 0, none⟩) hgl).trans t0
    by_cases hlt : k < D.l.length
    · obtain ⟨b, oo, A0, n0, c0, hA0, hbB, hr0, hc⟩ := h.entry hlt
      obtain ⟨A2, n2, c2, hA2, _, hg, hr2, hcell, _⟩ := h.value hlt
      have hnx := Dc.valuesK_step D k
      have hln := Mp_getD hv k
      have hl2 := hr2.len
      have q0 := cell_regrown (hc 0 _ rfl)
      have q1 := cell_regrown (hc 1 _ rfl)
      have q2 := cell_regrown hcell
      simp only [Nat.add_zero] at q0
      try dsimp only at q0 q1
      skip
      subst hA0 hA2
      generalize D.v.getD k [] = dat at *
      generalize (D.l.getD k Dc.en0).index = ixx at *
      generalize (D.l.getD k Dc.en0).sub = sbx at *
      subst hl2
      have HN := Lib.hid hnx
      have OWN := Lib.hid (fun (w2 : World) (hb : Below w.heap.size w w2) => Join_any w2 (RB.none_ (B := 0)) (hr2.below hb) (by omega) (Nat.zero_le _) hb.size)
      have i0 : (0 : Int) ≤ (k : Int) := by omega
      have i1 : (k : Int) < (D.l.length : Int) := by omega
      have bd := bb.trans ((below_drew wr).mono bb.size)
      clear hnx hc hr0 hr2 hcell
      go_wp2_with fail
      refine region_since (w0 := w) (by kernel_rfl) ?_
      refine phase_later (by kernel_rfl) 5 bd [0, 1, 5, 9, 13, 17, 21, 2, 10, 18, 3, 11, 19, 4, 12, 20, 6, 14, 22, 7, 15, 23, 8, 16] rfl (by kernel_rfl) ?_
      simp only [picks, nth]
      repeat (go_big_quiet_step (fail))
      refine wpQuiet_nil ?_
      refine phase_op 24 4 rfl (by kernel_rfl) (by decide) ?_
      simp only [nth]
      go_wp2_with fail
      refine (OWN.out _ bd).mono ?_
      rintro e w3 ⟨A3, c3, rfl, o3, b3⟩
      rw [List.nil_append] at o3; simp only [Nat.zero_add] at o3 ⊢
      have b3' : Below wr.heap.size wr w3 := (below_drew wr).trans b3
      have d3 := below_step bb b3' (Nat.le_refl _)
      have os3 := os.below b3' (R' := VlW w3 w.heap.size) fun _ _ h => h.below b3'
      have ow3 := (o3.ow).more (base' := w.heap.size) bd.size
      clear os o3
      go_wp2_with fail
      refine behind_since d3 ?_
      refine phase_later (by kernel_rfl) 3 d3 [25] rfl (by kernel_rfl) ?_
      simp only [picks, nth]
      repeat (go_big_quiet_step (fail))
      refine wpQuiet_nil ?_
      refine phase_op 26 2 rfl (by kernel_rfl) (by decide) ?_
      simp only [nth]
      have b4 := alloc_one w3 (.cells #[.int .i64 ixx, .int .i64 sbx, .slice A3 dat.length c3] 64)
      have d4 := below_step d3 b4 (Nat.le_refl _)
      have os4 := os3.below b4 (R' := VlW _ w.heap.size) fun _ _ h => h.below b4
      have hnew := RV.new w3 64 (size := 3) (cs := [.int .i64 ixx, .int .i64 sbx, .slice A3 dat.length c3]) rfl
      have hf4 : VlW (w3.alloc (.cells #[.int .i64 ixx, .int .i64 sbx, .slice A3 dat.length c3] 64)) w.heap.size ⟨ixx, sbx, dat⟩ [.int .i64 ixx, .int .i64 sbx, .slice A3 dat.length c3] := ⟨A3, dat.length, c3, rfl, ow3.below b4⟩
      go_wp2_with fail
      refine behind_since d4 ?_
      refine phase_op 27 1 rfl (by kernel_rfl) (by decide) ?_
      simp only [nth]
      go_wp2_with (at_builtin; refine wpList_apps2 etvl (fun w1 => VlW w1 w.heap.size) rfl (.tmp 14) (.tmp 40) rfl rfl rfl w.heap.size os4 ⟨ixx, sbx, dat⟩ hnew hf4 (value_oneCell _ _ _ _ _) (by omega) (by omega) d4.size (fun w1 A1 n1 c1 xs h g f cs hf => hf.beside h (by decide) g) ?_; intro A5 c5 w5 o5 b5 g5 _)
      have d5 := d4.trans b5
      refine behind_since d5 ?_
      refine phase_later (by kernel_rfl) 0 d5 [28] rfl (by kernel_rfl) ?_
      simp only [picks, nth]
      repeat (go_big_quiet_step (fail))
      refine wpQuiet_nil ?_
      refine phase_end (by kernel_rfl) ?_
      clear os3 os4 hnew hf4
      go_wp2_with fail
      go_roundw
      case rel => exact ⟨k + 1, A5, c5, by omega, by go_num, rfl, by rw [HN.out]; exact o5, d5⟩
      case measure => simp [intOf] <;> omega
    · obtain rfl : k = D.l.length := by omega
      go_wp2_with fail
      go_ret
      exact ⟨A1, c1, rfl, os, bb⟩
end Go.Proofs.YtkddillihhjghaaGreat
