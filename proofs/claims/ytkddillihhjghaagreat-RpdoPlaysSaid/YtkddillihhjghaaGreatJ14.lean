/-
  Texts joined: RpdRecv, RpdNew.
  Conditions: none.
-/
import Derived.Test.YtkddillihhjghaaGreatJ13
import Derived.Laws.EntriesVeiled
/-
  Walks: Id, Receive, Pulse of layer 31.
  Conditions: none.
-/
namespace Go.Proofs.YtkddillihhjghaaGreat
set_option linter.unusedVariables false
set_option linter.unusedSimpArgs false
open Go.RowKit Go.Sort
set_option maxHeartbeats 1000000 in
theorem RpId_any {w : World} {g : Nat} {t : TypeId} {a b c d : Value} {n : Int} (h : Blk w g t #[a, .int .i64 n, b, c, d]) : Calls Tryz.prog 20 #[.pointer (some ⟨g, 0, none⟩)] w fun e w' => e = .returned (.int .i64 n) ∧ w = w' := by
  have F := h.five
  go_enter Tryz.func20, Tryz.ntmps20
  go_wp2_with fail
  go_ret
  exact ⟨rfl, rfl⟩
set_option maxHeartbeats 1000000 in
theorem RpId_nil (w : World) : Calls Tryz.prog 20 #[.pointer none] w fun e w' => e = .returned (.int .i64 0) ∧ w = w' := by
  go_enter Tryz.func20, Tryz.ntmps20
  go_wp2_with fail
  go_ret
  exact ⟨rfl, rfl⟩
set_option maxHeartbeats 1000000 in
theorem take1_any (v : Value) (w : World) : Calls Tryz.prog 33 #[v] w fun e w' => e = .returned v ∧ w = w' := by
  go_enter Tryz.func33, Tryz.ntmps33
  go_wp2_with fail
  go_ret
  exact ⟨rfl, rfl⟩
set_option maxHeartbeats 1000000 in
theorem take2_any {w : World} {g gp : Nat} {t t' : TypeId} {a b c d e : Value} (A : Option Addr) (n k : Nat) (h : Blk w g t #[a, b, c, d, e]) (h' : Blk w gp t' #[.pointer (some ⟨g, 0, none⟩)]) : Calls Tryz.prog 34 #[.slice A n k, .pointer (some ⟨gp, 0, none⟩)] w fun x w' => x = .returned (.slice none 0 0) ∧ w' = w.setCell ⟨g, 3, none⟩ (.slice A n k) := by
  have F := h.five
  have F' := h'.one
  go_enter Tryz.func34, Tryz.ntmps34
  go_wp2_with fail
  go_ret
  exact ⟨rfl, rfl⟩
/-- What Receive hands back. -/
def RecvP (r : List Dc.Vl × Int × List Dc.Vl) (base g gp gd v : Nat) (t : Int) (ws : List Nat) (Aw : Option Addr) (cw : Nat) (w : World) (e : Ending) (w' : World) : Prop :=
  ∃ A1 c1, e = .returned (.agg #[.slice A1 r.1.length c1, .int .i64 r.2.1]) ∧ OS (VlW w' w.heap.size) w' w.heap.size 64 3 A1 r.1.length c1 r.1 ∧ Mv (fun q => q = g) w w' ∧ ∃ Av cv, RpM w' base g gp gd v t ws r.2.2 Aw cw Av cv
theorem recv_none {r : List Dc.Vl × Int × List Dc.Vl} {base g gp gd v : Nat} {t : Int} {ws : List Nat} {waits : List Dc.Vl} {Aw Av : Option Addr} {cw cv : Nat} {w w' : World} {z : Int} (hr : r = ([], z, waits)) (h : RpM w base g gp gd v t ws waits Aw cw Av cv) (hb : Below w.heap.size w w') :
    RecvP r base g gp gd v t ws Aw cw w (.returned (.agg #[.slice none 0 0, .int .i64 z])) w' := by
  subst hr
  exact ⟨none, 0, rfl, OS.none_ _ _ _ _, Mv.of_new hb _, Av, cv, h.below hb⟩
theorem Blk.store2 {w : World} {g : Nat} {t : TypeId} {a b : Value} (h : Blk w g t #[a, b]) (x y : Value) : Blk ((w.setCell ⟨g, 0, none⟩ x).setCell ⟨g, 1, none⟩ y) g t #[x, y] := (h.set_ 0 x).set_ 1 y
theorem below_set2 {B : Nat} {w w' : World} {g : Nat} (h : Below B w w') (hg : B ≤ g) (i j : Nat) (a b : Value) : Below B w ((w'.setCell ⟨g, i, none⟩ a).setCell ⟨g, j, none⟩ b) := (h.setCell (p := ⟨g, i, none⟩) hg a).setCell (p := ⟨g, j, none⟩) hg b
theorem recv_off {l : List Ent.En} {v : Nat} {t : Int} {ws : List Nat} {waits : List Dc.Vl} {fid : Int} {rem : Bool} {b : List UInt8} (h : Cob.pdo v = 0 ∨ fid ≠ (Cob.pdo v : Int) ∨ rem = true ∨ ws.length = 0) : Rp.recvS l v t ws waits fid rem b = ([], 0, waits) := by
  unfold Rp.recvS
  rw [if_pos h]
set_option maxRecDepth 100000 in
set_option maxHeartbeats 4000000 in
/-- A frame that is not the PDO's. -/
theorem Recv_off {w : World} {base g gp gd v : Nat} {t : Int} {ws : List Nat} {waits : List Dc.Vl} {Aw Av : Option Addr} {cw cv : Nat} (l : List Ent.En) (h : RpM w base g gp gd v t ws waits Aw cw Av cv) (fid : Int) (rem : Bool) {A : Option Addr} {n c : Nat} (b : List UInt8) (hoff : Cob.pdo v = 0 ∨ fid ≠ (Cob.pdo v : Int) ∨ rem = true ∨ ws.length = 0) :
    Calls Tryz.prog 14 #[.pointer (some ⟨g, 0, none⟩), .agg #[.int .i64 fid, .bool rem, .slice A n c]] w (RecvP (Rp.recvS l v t ws waits fid rem b) base g gp gd v t ws Aw cw w) := by
  have HR := Lib.hid (recv_off (l := l) (v := v) (t := t) (ws := ws) (waits := waits) (fid := fid) (rem := rem) (b := b) hoff)
  have b0 := alloc_two w (.cells #[.int .i64 fid, .bool rem, .slice A n c] 51) (.cells #[.slice none 0 0, .int .i64 0] 57)
  have KF := (Blk.new w 51 #[.int .i64 fid, .bool rem, .slice A n c]).alloc (.cells #[.slice none 0 0, .int .i64 0] 57)
  have KO := Blk.new (w.alloc (.cells #[.int .i64 fid, .bool rem, .slice A n c] 51)) 57 #[.slice none 0 0, .int .i64 0]
  rw [World.size_alloc] at KO
  have KG := h.blk.later b0
  have HH := Lib.hid h
  have f0 := cell_regrown KF.three.1
  have f1 := cell_regrown KF.three.2.1
  have g1 := cell_regrown KG.five.1.2.1
  have g2 := cell_regrown KG.five.1.2.2.1
  have ID := Lib.hid (fun d os => Calls.grown_same (RpId_any (KG.later (below_regrown _ d os))))
  clear h
  generalize Rp.recvS l v t ws waits fid rem b = r at *
  have hc : (Cob.pdo v : Int) = 0 ∨ ((Cob.pdo v : Int) ≠ 0 ∧ fid ≠ (Cob.pdo v : Int)) ∨ ((Cob.pdo v : Int) ≠ 0 ∧ fid = (Cob.pdo v : Int) ∧ rem = true) ∨ ((Cob.pdo v : Int) ≠ 0 ∧ fid = (Cob.pdo v : Int) ∧ rem = false ∧ (ws.length : Int) = 0) := by
    by_cases h1 : Cob.pdo v = 0
    · exact .inl (by omega)
    · by_cases h2 : fid = (Cob.pdo v : Int)
      · cases rem
        · right; right; right
          refine ⟨by omega, h2, rfl, ?_⟩
          rcases hoff with h | h | h | h
          · exact absurd h h1
          · exact absurd h2 h
          · cases h
          · omega
        · exact .inr (.inr (.inl ⟨by omega, h2, rfl⟩))
      · exact .inr (.inl ⟨by omega, h2⟩)
  clear hoff
  generalize (Cob.pdo v : Int) = P at *
  rcases hc with rfl | ⟨h1, h2⟩ | ⟨h1, rfl, rfl⟩ | ⟨h1, rfl, rfl, h4⟩
  · go_enter Tryz.func14, Tryz.ntmps14
    go_wp2_with fail
    refine wp_region_quiet_below (by kernel_rfl) (by kernel_rfl) ?_
    repeat (go_big_quiet_step (with_reducible exact ID.out _ _))
    refine wpQuiet_nil ?_
    intro _ hw'
    obtain ⟨⟨dq, osq⟩, hw''⟩ := hw'
    subst hw''
    dsimp only
    have bq := below_regrown ((w.alloc (.cells #[.int .i64 fid, .bool rem, .slice A n c] 51)).alloc (.cells #[.slice none 0 0, .int .i64 0] 57)) dq osq
    have KQ := KO.later bq
    have dq' := below_step b0 bq (Nat.le_refl _)
    generalize grow (redrawn ((w.alloc (.cells #[.int .i64 fid, .bool rem, .slice A n c] 51)).alloc (.cells #[.slice none 0 0, .int .i64 0] 57)) dq) osq = wq at *
    clear f0 f1 g1 g2 ID bq KO KF KG
    have FQ := KQ.two
    go_wp2_with fail
    have R := (KQ.store2 (.slice none 0 0) (.int .i64 0)).two
    exact bodyPost_ret (v := .agg #[.slice none 0 0, .int .i64 0]) (by simp [results, Tryz.results14, go_sem, R]) rfl (recv_none HR.out HH.out (below_set2 dq' (by omega) _ _ _ _))
  · have e1 : (P == 0) = false := by simpa using h1
    have e2 : (fid != P) = true := by simpa using h2
    go_enter Tryz.func14, Tryz.ntmps14
    go_wp2_with fail
    refine wp_region_quiet_below (by kernel_rfl) (by kernel_rfl) ?_
    repeat (go_big_quiet_step (with_reducible exact ID.out _ _))
    refine wpQuiet_nil ?_
    intro _ hw'
    obtain ⟨⟨dq, osq⟩, hw''⟩ := hw'
    subst hw''
    dsimp only
    have bq := below_regrown ((w.alloc (.cells #[.int .i64 fid, .bool rem, .slice A n c] 51)).alloc (.cells #[.slice none 0 0, .int .i64 0] 57)) dq osq
    have KQ := KO.later bq
    have dq' := below_step b0 bq (Nat.le_refl _)
    generalize grow (redrawn ((w.alloc (.cells #[.int .i64 fid, .bool rem, .slice A n c] 51)).alloc (.cells #[.slice none 0 0, .int .i64 0] 57)) dq) osq = wq at *
    clear f0 f1 g1 g2 ID bq KO KF KG
    have FQ := KQ.two
    go_wp2_with fail
    have R := (KQ.store2 (.slice none 0 0) (.int .i64 0)).two
    exact bodyPost_ret (v := .agg #[.slice none 0 0, .int .i64 0]) (by simp [results, Tryz.results14, go_sem, R]) rfl (recv_none HR.out HH.out (below_set2 dq' (by omega) _ _ _ _))
  · have e1 : (fid == 0) = false := by simpa using h1
    have e2 : (fid != fid) = false := by simp
    go_enter Tryz.func14, Tryz.ntmps14
    go_wp2_with fail
    refine wp_region_quiet_below (by kernel_rfl) (by kernel_rfl) ?_
    repeat (go_big_quiet_step (with_reducible exact ID.out _ _))
    refine wpQuiet_nil ?_
    intro _ hw'
    obtain ⟨⟨dq, osq⟩, hw''⟩ := hw'
    subst hw''
    dsimp only
    have bq := below_regrown ((w.alloc (.cells #[.int .i64 fid, .bool true, .slice A n c] 51)).alloc (.cells #[.slice none 0 0, .int .i64 0] 57)) dq osq
    have KQ := KO.later bq
    have dq' := below_step b0 bq (Nat.le_refl _)
    generalize grow (redrawn ((w.alloc (.cells #[.int .i64 fid, .bool true, .slice A n c] 51)).alloc (.cells #[.slice none 0 0, .int .i64 0] 57)) dq) osq = wq at *
    clear f0 f1 g1 g2 ID bq KO KF KG
    have FQ := KQ.two
    go_wp2_with fail
    have R := (KQ.store2 (.slice none 0 0) (.int .i64 0)).two
    exact bodyPost_ret (v := .agg #[.slice none 0 0, .int .i64 0]) (by simp [results, Tryz.results14, go_sem, R]) rfl (recv_none HR.out HH.out (below_set2 dq' (by omega) _ _ _ _))
  · have e1 : (fid == 0) = false := by simpa using h1
    have e2 : (fid != fid) = false := by simp
    have e3 : ((ws.length : Int) == 0) = true := by simpa using h4
    go_enter Tryz.func14, Tryz.ntmps14
    go_wp2_with fail
    refine wp_region_quiet_below (by kernel_rfl) (by kernel_rfl) ?_
    repeat (go_big_quiet_step (with_reducible exact ID.out _ _))
    refine wpQuiet_nil ?_
    intro _ hw'
    obtain ⟨⟨dq, osq⟩, hw''⟩ := hw'
    subst hw''
    dsimp only
    have bq := below_regrown ((w.alloc (.cells #[.int .i64 fid, .bool false, .slice A n c] 51)).alloc (.cells #[.slice none 0 0, .int .i64 0] 57)) dq osq
    have KQ := KO.later bq
    have dq' := below_step b0 bq (Nat.le_refl _)
    generalize grow (redrawn ((w.alloc (.cells #[.int .i64 fid, .bool false, .slice A n c] 51)).alloc (.cells #[.slice none 0 0, .int .i64 0] 57)) dq) osq = wq at *
    clear f0 f1 g1 g2 ID bq KO KF KG
    have FQ := KQ.two
    go_wp2_with fail
    have R := (KQ.store2 (.slice none 0 0) (.int .i64 0)).two
    exact bodyPost_ret (v := .agg #[.slice none 0 0, .int .i64 0]) (by simp [results, Tryz.results14, go_sem, R]) rfl (recv_none HR.out HH.out (below_set2 dq' (by omega) _ _ _ _))
theorem RpM.hold {w : World} {base g gp gd v : Nat} {t : Int} {ws : List Nat} {waits new : List Dc.Vl} {Aw Av A1 : Option Addr} {cw cv c1 : Nat} (h : RpM w base g gp gd v t ws waits Aw cw Av cv) (ho : OS (VlW w base) w base 64 3 A1 new.length c1 new) : RpM (w.setCell ⟨g, 3, none⟩ (.slice A1 new.length c1)) base g gp gd v t ws new Aw cw A1 c1 := by
  refine ⟨h.gb, h.gpb, h.ne, h.blk.set_ 3 _, fun ht => (h.box ht).far (p := ⟨g, 3, none⟩) (Ne.symm h.ne) _, OV.off h.words h.blk (by decide), ?_⟩
  obtain ⟨xs, h1, h2⟩ := ho
  refine ⟨xs, OV.off h1 h.blk (by decide), h2.imp fun f cs hf => ?_⟩
  obtain ⟨A, n, c, e1, e2⟩ := hf
  exact ⟨A, n, c, e1, e2.grown (row := some g) (grown_setCell (World.grownBy.refl _ _) (.inl rfl) _) fun k cur hk he => by injection he with he; subst he; exact Blk.ne_ hk h.blk (by decide) rfl⟩
/-- Writes to a block that was made. -/
theorem RpM.out {w : World} {base g gp gd v q : Nat} {t : Int} {t' : TypeId} {cs : Array Value} {ws : List Nat} {waits : List Dc.Vl} {Aw Av : Option Addr} {cw cv : Nat} (h : RpM w base g gp gd v t ws waits Aw cw Av cv) (hq : Blk w q t' cs) (hne : q ≠ g) (hne2 : q ≠ gp) (h1 : t' ≠ 23) (h2 : t' ≠ 64) (h3 : t' ≠ 5) (i : Nat) (u : Value) : RpM (w.setCell ⟨q, i, none⟩ u) base g gp gd v t ws waits Aw cw Av cv := by
  refine ⟨h.gb, h.gpb, h.ne, h.blk.far (p := ⟨q, i, none⟩) (Ne.symm hne) _, fun ht => (h.box ht).far (p := ⟨q, i, none⟩) (Ne.symm hne2) _, OV.off h.words hq h1, ?_⟩
  obtain ⟨xs, k1, k2⟩ := h.wait
  refine ⟨xs, OV.off k1 hq h2, k2.imp fun f cs hf => ?_⟩
  obtain ⟨A, n, c, e1, e2⟩ := hf
  exact ⟨A, n, c, e1, e2.grown (row := some q) (grown_setCell (World.grownBy.refl _ _) (.inl rfl) _) fun k cur hk he => by injection he with he; subst he; exact Blk.ne_ hk hq (Ne.symm h3) rfl⟩
theorem OS.outv {w : World} {base q : Nat} {t' : TypeId} {cs : Array Value} {A : Option Addr} {n c : Nat} {l : List Dc.Vl} {base' : Nat} (h : OS (VlW w base') w base 64 3 A n c l) (hq : Blk w q t' cs) (h2 : t' ≠ 64) (h3 : t' ≠ 5) (i : Nat) (u : Value) : OS (VlW (w.setCell ⟨q, i, none⟩ u) base') (w.setCell ⟨q, i, none⟩ u) base 64 3 A n c l := by
  obtain ⟨xs, k1, k2⟩ := h
  refine ⟨xs, OV.off k1 hq h2, k2.imp fun f cs hf => ?_⟩
  obtain ⟨A, n, c, e1, e2⟩ := hf
  exact ⟨A, n, c, e1, e2.grown (row := some q) (grown_setCell (World.grownBy.refl _ _) (.inl rfl) _) fun k cur hk he => by injection he with he; subst he; exact Blk.ne_ hk hq (Ne.symm h3) rfl⟩
/-- Values are kept where another block is written. -/
theorem OS.mvg {w w' : World} {base q : Nat} {t' : TypeId} {cs : Array Value} {A : Option Addr} {n c : Nat} {l : List Dc.Vl} {base' : Nat} (h : OS (VlW w base') w base 64 3 A n c l) (hq : Blk w q t' cs) (h2 : t' ≠ 64) (h3 : t' ≠ 5) (hm : Mv (fun b => b = q) w w') : OS (VlW w' base') w' base 64 3 A n c l := by
  have hg := hm.grown
  obtain ⟨xs, k1, k2⟩ := h
  refine ⟨xs, OV.kept k1 hg (.inr (own_blk_ne k1 hq (Ne.symm h2))), k2.imp fun f cs hf => ?_⟩
  obtain ⟨A, n, c, e1, e2⟩ := hf
  exact ⟨A, n, c, e1, e2.grown hg fun k cur hk he => by injection he with he; subst he; exact Blk.ne_ hk hq (Ne.symm h3) rfl⟩
theorem Mv.out {F : Nat → Prop} {w w' : World} (h : Mv F w w') {q : Nat} (hq : w.heap.size ≤ q) (i : Nat) (u : Value) : Mv F w (w'.setCell ⟨q, i, none⟩ u) := h.trans (Mv.setCell w' ⟨q, i, none⟩ u) fun b hb e => by have e2 : b = q := e; omega
set_option maxRecDepth 100000 in
set_option maxHeartbeats 8000000 in
/-- A frame that is the PDO's. -/
theorem Recv_on {F : Nat → Prop} {w : World} {base g gp gd v : Nat} {t : Int} {ws : List Nat} {waits : List Dc.Vl} {Aw Av : Option Addr} {cw cv : Nat} {gv lc vc : Nat} {la : Addr} {vA : Option Addr} {xs vs : List Value} {D : Dc.Dic} (h : RpM w base g gp gd v t ws waits Aw cw Av cv) (hD : DRt 71 w F gd gv (some la) lc vA vc xs vs D) (hd : ∀ e ∈ D.l, e.dflt.length ≤ 1000000) (hwl : ∀ x ∈ ws, x < 4294967296) {A : Option Addr} {n c B : Nat} {b : List UInt8} (hr : RB w B A n c b) (hB : B ≤ w.heap.size) (hn : n ≤ 1000000) (h1 : Cob.pdo v ≠ 0) (h4 : ws.length ≠ 0) :
    Calls Tryz.prog 14 #[.pointer (some ⟨g, 0, none⟩), .agg #[.int .i64 (Cob.pdo v : Int), .bool false, .slice A n c]] w (RecvP (Rp.recvS D.l v t ws waits (Cob.pdo v : Int) false b) base g gp gd v t ws Aw cw w) := by
  have hrs : Rp.recvS D.l v t ws waits (Cob.pdo v : Int) false b = if (Mp.scatterS D.l ws b).2 = 0 then (if t ≤ 240 then ([], 0, (Mp.scatterS D.l ws b).1) else ((Mp.scatterS D.l ws b).1, 0, waits))
      else if (Mp.scatterS D.l ws b).2 = 2 then ([], 33296, waits) else if (Mp.scatterS D.l ws b).2 = 9 then ([], 25344, waits) else ([], 0, waits) := by
    unfold Rp.recvS
    rw [if_neg (by simp [h1, h4])]
  have b0 := alloc_two w (.cells #[.int .i64 (Cob.pdo v : Int), .bool false, .slice A n c] 51) (.cells #[.slice none 0 0, .int .i64 0] 57)
  have KF := (Blk.new w 51 #[.int .i64 (Cob.pdo v : Int), .bool false, .slice A n c]).alloc (.cells #[.slice none 0 0, .int .i64 0] 57)
  have KO := Blk.new (w.alloc (.cells #[.int .i64 (Cob.pdo v : Int), .bool false, .slice A n c] 51)) 57 #[.slice none 0 0, .int .i64 0]
  rw [World.size_alloc] at KO
  have KG := h.blk.later b0
  have f0 := cell_regrown KF.three.1
  have f1 := cell_regrown KF.three.2.1
  have g1 := cell_regrown KG.five.1.2.1
  have g2 := cell_regrown KG.five.1.2.2.1
  have ID := Lib.hid (fun d os => Calls.grown_same (RpId_any (KG.later (below_regrown _ d os))))
  have hgl := h.blk.lt
  have hgpl : t ≤ 240 → gp < w.heap.size := fun ht => (h.box ht).lt
  have hbase : base ≤ w.heap.size := by have := h.gb; omega
  have SC := fun w' (hb : Below w.heap.size w w') => Scatter_any (hD.below hb) hd ((h.words.rw).below hb) hwl hb.size (hr.below (hb.mono hB)) hn (Nat.le_trans hB hb.size)
  have e1 : ((Cob.pdo v : Int) == 0) = false := by rw [beq_eq_false_iff_ne]; omega
  have e2 : ((Cob.pdo v : Int) != (Cob.pdo v : Int)) = false := by simp
  have e3 : ((ws.length : Int) == 0) = false := by rw [beq_eq_false_iff_ne]; omega
  generalize Rp.recvS D.l v t ws waits (Cob.pdo v : Int) false b = r at *
  generalize Mp.scatterS D.l ws b = sc at *
  obtain ⟨sl, se⟩ := sc
  unfold ScatPost at SC
  dsimp only at SC hrs
  have HRS := Lib.hid hrs
  have HH := Lib.hid h
  replace SC := Lib.hid SC
  generalize (Cob.pdo v : Int) = P at *
  clear hrs h hD hr h1 h4
  go_enter Tryz.func14, Tryz.ntmps14
  go_wp2_with fail
  refine wp_region_quiet_below (by kernel_rfl) (by kernel_rfl) ?_
  repeat (go_big_quiet_step (with_reducible exact ID.out _ _))
  refine wpQuiet_nil ?_
  intro _ hw'
  obtain ⟨⟨dq, osq⟩, hw''⟩ := hw'
  subst hw''
  dsimp only
  have bq := below_regrown ((w.alloc (.cells #[.int .i64 P, .bool false, .slice A n c] 51)).alloc (.cells #[.slice none 0 0, .int .i64 0] 57)) dq osq
  have KQ := KO.later bq
  have KFq := KF.later bq
  have KGq := KG.later bq
  have dq' := below_step b0 bq (Nat.le_refl _)
  generalize grow (redrawn ((w.alloc (.cells #[.int .i64 P, .bool false, .slice A n c] 51)).alloc (.cells #[.slice none 0 0, .int .i64 0] 57)) dq) osq = wq at *
  clear f0 f1 g1 g2 ID bq KO KF KG b0
  have f2 := cell_regrown KFq.three.2.2.1
  have g0 := cell_regrown KGq.five.1.1
  have g2 := cell_regrown KGq.five.1.2.2.1
  go_wp2_with fail
  refine region_later (by kernel_rfl) ?_
  refine phase_later (by kernel_rfl) 6 (below_drew _) [0, 4, 8, 1, 5, 9, 2, 6, 3, 7] rfl (by kernel_rfl) ?_
  simp only [picks, nth]
  repeat (go_big_quiet_step (fail))
  refine wpQuiet_nil ?_
  refine phase_op 10 5 rfl (by kernel_rfl) (by decide) ?_
  simp only [nth]
  go_wp2_with fail
  refine (SC.out _ (below_step dq' (below_drew _) (Nat.le_refl _))).mono ?_
  rintro e w1 ⟨A1, c1, rfl, o1, b1⟩
  have b1' : Below wq.heap.size wq w1 := (below_drew wq).trans b1
  have d1 := below_step dq' b1' (Nat.le_refl _)
  go_wp2_with fail
  refine behind_later b1' ?_
  refine phase_later (by kernel_rfl) 0 (Below.refl _ _) [11, 12, 13, 14, 15] rfl (by kernel_rfl) ?_
  simp only [picks, nth]
  repeat (go_big_quiet_step (fail))
  refine wpQuiet_nil ?_
  refine phase_end (by kernel_rfl) ?_
  have KO1 := KQ.later b1'
  have KG1 := KGq.later b1'
  have H1 := HH.out.below d1
  have o1' := o1.more (base' := w.heap.size) dq'.size (R' := VlW w1 w.heap.size) fun _ _ h => h.more dq'.size
  clear f2 g0 g2 KQ KFq KGq o1
  have hgo : w.heap.size + 1 ≠ g := by omega
  have FO := KO1.two
  have GO := KG1.five
  by_cases hse : se = 0
  · subst hse
    have hrs := HRS.out
    simp only [if_true] at hrs
    by_cases ht : t ≤ 240
    · rw [if_pos ht] at hrs
      have HR := Lib.hid hrs; clear hrs
      have hgp := hgpl ht
      have hgo2 : w.heap.size + 1 ≠ gp := by omega
      have BX := H1.box ht
      have T2 := Lib.hid (take2_any A1 sl.length c1 KG1 BX)
      have hf : takeF t gp = .func (.func 34) #[] #[.pointer (some ⟨gp, 0, none⟩)] := if_pos ht
      rw [hf] at GO
      have H2 := H1.hold (new := sl) (A1 := A1) (c1 := c1) (by obtain ⟨xs, k1, k2⟩ := o1'; exact ⟨xs, k1.more hbase, k2.imp fun _ _ h => h.more hbase⟩)
      have KO2 := KO1.far (p := ⟨g, 3, none⟩) hgo (.slice A1 sl.length c1)
      have FO2 := KO2.two
      have M2 : Mv (fun q => q = g) w (w1.setCell ⟨g, 3, none⟩ (.slice A1 sl.length c1)) := (Mv.of_new d1 _).trans (Mv.setCell w1 ⟨g, 3, none⟩ _) fun b _ e => e
      have H3 := (H2.out KO2 hgo hgo2 (by decide) (by decide) (by decide) 0 (.slice none 0 0)).out (KO2.set_ 0 (.slice none 0 0)) hgo hgo2 (by decide) (by decide) (by decide) 1 (.int .i64 0)
      have M3 := (M2.out (q := w.heap.size + 1) (by omega) 0 (.slice none 0 0)).out (q := w.heap.size + 1) (by omega) 1 (.int .i64 0)
      have R := (KO2.store2 (.slice none 0 0) (.int .i64 0)).two
      go_wp2_with fail
      refine (T2.out).mono ?_
      rintro e _ ⟨rfl, rfl⟩
      go_wp2_with fail
      exact bodyPost_ret (v := .agg #[.slice none 0 0, .int .i64 0]) (by simp [results, Tryz.results14, go_sem, R]) rfl (by rw [HR.out]; exact ⟨none, 0, rfl, OS.none_ _ _ _ _, M3, A1, c1, H3⟩)
    · rw [if_neg ht] at hrs
      have HR := Lib.hid hrs; clear hrs
      have T1 := Lib.hid (take1_any (.slice A1 sl.length c1) w1)
      have hf : takeF t gp = .func (.func 33) #[] #[] := if_neg ht
      rw [hf] at GO
      have hgp : w.heap.size + 1 ≠ gp ∨ True := .inr trivial
      have M3 := ((Mv.of_new d1 (fun q => q = g)).out (q := w.heap.size + 1) (by omega) 0 (.slice A1 sl.length c1)).out (q := w.heap.size + 1) (by omega) 1 (.int .i64 0)
      have R := (KO1.store2 (.slice A1 sl.length c1) (.int .i64 0)).two
      have o3 := (o1'.outv KO1 (by decide) (by decide) 0 (.slice A1 sl.length c1)).outv (KO1.set_ 0 (.slice A1 sl.length c1)) (by decide) (by decide) 1 (.int .i64 0)
      have H3 : RpM ((w1.setCell ⟨w.heap.size + 1, 0, none⟩ (.slice A1 sl.length c1)).setCell ⟨w.heap.size + 1, 1, none⟩ (.int .i64 0)) base g gp gd v t ws waits Aw cw Av cv := HH.out.below (below_set2 d1 (by omega) _ _ _ _)
      go_wp2_with fail
      refine (T1.out).mono ?_
      rintro e _ ⟨rfl, rfl⟩
      go_wp2_with fail
      exact bodyPost_ret (v := .agg #[.slice A1 sl.length c1, .int .i64 0]) (by simp [results, Tryz.results14, go_sem, R]) rfl (by rw [HR.out]; exact ⟨A1, c1, rfl, o3, M3, Av, cv, H3⟩)
  · have hrs := HRS.out
    have z1 : (se == 0) = false := by simpa using hse
    simp only [hse, if_false] at hrs
    by_cases h2 : se = 2
    · subst h2
      simp only [if_true] at hrs
      have HR := Lib.hid hrs; clear hrs
      have R := (KO1.store2 (.slice none 0 0) (.int .i64 33296)).two
      clear GO
      go_wp2_with fail
      exact bodyPost_ret (v := .agg #[.slice none 0 0, .int .i64 33296]) (by simp [results, Tryz.results14, go_sem, R]) rfl (recv_none HR.out HH.out (below_set2 d1 (by omega) _ _ _ _))
    · have z2 : (se == 2) = false := by simpa using h2
      simp only [h2, if_false] at hrs
      by_cases h9 : se = 9
      · subst h9
        simp only [if_true] at hrs
        have HR := Lib.hid hrs; clear hrs
        have R := (KO1.store2 (.slice none 0 0) (.int .i64 25344)).two
        clear GO
        go_wp2_with fail
        exact bodyPost_ret (v := .agg #[.slice none 0 0, .int .i64 25344]) (by simp [results, Tryz.results14, go_sem, R]) rfl (recv_none HR.out HH.out (below_set2 d1 (by omega) _ _ _ _))
      · have z9 : (se == 9) = false := by simpa using h9
        simp only [h9, if_false] at hrs
        replace hse := Lib.hid hse; replace h2 := Lib.hid h2; replace h9 := Lib.hid h9
        have HR := Lib.hid hrs; clear hrs
        have R := (KO1.store2 (.slice none 0 0) (.int .i64 0)).two
        clear GO
        go_wp2_with fail
        exact bodyPost_ret (v := .agg #[.slice none 0 0, .int .i64 0]) (by simp [results, Tryz.results14, go_sem, R]) rfl (recv_none HR.out HH.out (below_set2 d1 (by omega) _ _ _ _))
/-- What Pulse hands back. -/
def PulseP (waits : List Dc.Vl) (base g gp gd v : Nat) (t : Int) (ws : List Nat) (Aw : Option Addr) (cw : Nat) (w : World) (e : Ending) (w' : World) : Prop :=
  ∃ A1 c1, e = .returned (.slice A1 waits.length c1) ∧ OS (VlW w' base) w' base 64 3 A1 waits.length c1 waits ∧ Mv (fun q => q = g) w w' ∧ RpM w' base g gp gd v t ws [] Aw cw none 0
set_option maxHeartbeats 1000000 in
theorem Pulse_any {w : World} {base g gp gd v : Nat} {t : Int} {ws : List Nat} {waits : List Dc.Vl} {Aw Av : Option Addr} {cw cv : Nat} (h : RpM w base g gp gd v t ws waits Aw cw Av cv) : Calls Tryz.prog 18 #[.pointer (some ⟨g, 0, none⟩)] w (PulseP waits base g gp gd v t ws Aw cw w) := by
  have F := h.blk.five
  have H2 := h.hold (new := []) (A1 := none) (c1 := 0) (OS.none_ _ _ _ _)
  have o2 := OS.outv h.wait h.blk (by decide) (by decide) 3 (.slice none 0 0)
  have M2 : Mv (fun q => q = g) w (w.setCell ⟨g, 3, none⟩ (.slice none 0 0)) := Mv.setCell w ⟨g, 3, none⟩ _
  clear h
  go_enter Tryz.func18, Tryz.ntmps18
  go_wp2_with fail
  go_ret
  exact ⟨Av, cv, rfl, o2, M2, H2⟩
set_option maxHeartbeats 1000000 in
theorem Pulse_nil (w : World) : Calls Tryz.prog 18 #[.pointer none] w fun e w' => e = .returned (.slice none 0 0) ∧ w = w' := by
  go_enter Tryz.func18, Tryz.ntmps18
  go_wp2_with fail
  go_ret
  exact ⟨rfl, rfl⟩
set_option maxRecDepth 100000 in
set_option maxHeartbeats 2000000 in
/-- A PDO that is not there, or was not made. -/
theorem Recv_dead {w : World} (p : Option Addr) (hp : ∀ w', Below w.heap.size w w' → Calls Tryz.prog 20 #[.pointer p] w' fun e w'' => e = .returned (.int .i64 0) ∧ w' = w'') (fid : Int) (rem : Bool) (A : Option Addr) (n c : Nat) :
    Calls Tryz.prog 14 #[.pointer p, .agg #[.int .i64 fid, .bool rem, .slice A n c]] w fun e w' => e = .returned (.agg #[.slice none 0 0, .int .i64 0]) ∧ Below w.heap.size w w' := by
  have b0 := alloc_two w (.cells #[.int .i64 fid, .bool rem, .slice A n c] 51) (.cells #[.slice none 0 0, .int .i64 0] 57)
  have KO := Blk.new (w.alloc (.cells #[.int .i64 fid, .bool rem, .slice A n c] 51)) 57 #[.slice none 0 0, .int .i64 0]
  rw [World.size_alloc] at KO
  have ID := Lib.hid (fun d os => Calls.grown_same (hp _ (below_step b0 (below_regrown _ d os) (Nat.le_refl _))))
  clear hp
  go_enter Tryz.func14, Tryz.ntmps14
  go_wp2_with fail
  refine wp_region_quiet_below (by kernel_rfl) (by kernel_rfl) ?_
  repeat (go_big_quiet_step (with_reducible exact ID.out _ _))
  refine wpQuiet_nil ?_
  intro _ hw'
  obtain ⟨⟨dq, osq⟩, hw''⟩ := hw'
  subst hw''
  dsimp only
  have bq := below_regrown ((w.alloc (.cells #[.int .i64 fid, .bool rem, .slice A n c] 51)).alloc (.cells #[.slice none 0 0, .int .i64 0] 57)) dq osq
  have KQ := KO.later bq
  have dq' := below_step b0 bq (Nat.le_refl _)
  generalize grow (redrawn ((w.alloc (.cells #[.int .i64 fid, .bool rem, .slice A n c] 51)).alloc (.cells #[.slice none 0 0, .int .i64 0] 57)) dq) osq = wq at *
  clear ID bq KO
  have FQ := KQ.two
  go_wp2_with fail
  have R := (KQ.store2 (.slice none 0 0) (.int .i64 0)).two
  exact bodyPost_ret (v := .agg #[.slice none 0 0, .int .i64 0]) (by simp [results, Tryz.results14, go_sem, R]) rfl ⟨rfl, below_set2 dq' (by omega) _ _ _ _⟩
end Go.Proofs.YtkddillihhjghaaGreat
/-
  Walks: New of layer 31.
  Conditions: none.
-/
namespace Go.Proofs.YtkddillihhjghaaGreat
set_option linter.unusedVariables false
set_option linter.unusedSimpArgs false
open Go.RowKit
/-- What New hands back: a PDO, or why there is none. -/
def RNewP (l : List Ent.En) (gd v : Nat) (t : Int) (ws : List Nat) (w : World) (e : Ending) (w' : World) : Prop :=
  (Rp.checkS l v t ws = 0 ∧ Below w.heap.size w w' ∧ ∃ g gp Aw cw, e = .returned (.tuple #[.pointer (some ⟨g, 0, none⟩), .int .u32 0]) ∧ RpM w' w.heap.size g gp gd v t ws [] Aw cw none 0) ∨
  (Rp.checkS l v t ws ≠ 0 ∧ Below w.heap.size w w' ∧ e = .returned (.tuple #[.pointer none, .int .u32 (Rp.checkS l v t ws)]))
set_option maxRecDepth 100000 in
set_option maxHeartbeats 4000000 in
theorem RpNew_any {F : Nat → Prop} {w : World} {g gv lc vc : Nat} {la : Addr} {vA : Option Addr} {xs vs : List Value} {D : Dc.Dic} {A : Option Addr} {n c B : Nat} {ws : List Nat} (v : Nat) (hv : v < 4294967296) (t : Int) (h : DRt 71 w F g gv (some la) lc vA vc xs vs D) (hd : ∀ e ∈ D.l, e.dflt.length ≤ 1000000) (hw : RW w B A n c ws) (hwl : ∀ x ∈ ws, x < 4294967296) (hB : B ≤ w.heap.size) :
    Calls Tryz.prog 9 #[.pointer (some ⟨g, 0, none⟩), .agg #[.int .u32 (v : Int), .int .i64 t, .slice A n c]] w (RNewP D.l g v t ws w) := by
  have b0 := alloc_one w (.cells #[.int .u32 (v : Int), .int .i64 t, .slice A n c] 39)
  have K := Blk.new w 39 #[.int .u32 (v : Int), .int .i64 t, .slice A n c]
  have F0 := K.three
  have CK := RCheck_any v hv t (h.below b0) hd (hw.below (b0.mono hB)) hwl (Nat.le_trans hB b0.size)
  unfold RNewP
  have hcp := Rp.check_parts (l := D.l) (w := v) (t := t) (ws := ws)
  have hl := hw.len
  subst hl
  generalize Rp.checkS D.l v t ws = r at *
  replace CK := Lib.hid CK
  by_cases hr : r = 0
  · subst hr
    obtain ⟨p1, p2, p3⟩ := hcp rfl
    have SP := Lib.hid (fun w => CSplit_ok v hv (Cob.place_bad p1) w)
    have h8 := (Mp.check_each p3).1
    clear hcp p1 p2 p3
    go_enter Tryz.func9, Tryz.ntmps9
    go_wp2_with fail
    refine (CK.out).mono ?_
    rintro e w1 ⟨rfl, b1⟩
    have d1 := below_step b0 b1 (Nat.le_refl _)
    have F1 := (K.later b1).three
    clear F0
    have hr1 := RW.below hw (d1.mono hB)
    go_wp2_with (at_builtin; refine wpList_app etw rfl (.const (.slice none 0 0)) (.tmp 18) rfl rfl rfl w.heap.size (OV.none_ _ _ _ _) hr1 (by intro u hu; obtain ⟨x, _, rfl⟩ := List.mem_map.1 hu; rfl) (by omega) (by omega) d1.size ?_; simp only [Nat.zero_add, List.nil_append]; intro A2 c2 w2 o2 g2 _; have b2 : Below w1.heap.size w1 w2 := (Below.refl _ w1).grown g2 (Nat.le_refl _) (fun k hk => by cases hk); have b3 := alloc_two w2 (.cells #[.pointer (some ⟨g, 0, none⟩), .int .i64 0, .slice A2 ws.length c2, .slice none 0 0, .nilFunc] 81) (.cells #[.pointer (some ⟨w2.heap.size, 0, none⟩)] 41); have KC := ((K.later b1).later b2).later b3; have F3 := KC.three; clear F1)
    have KG : Blk ((w2.alloc (.cells #[.pointer (some ⟨g, 0, none⟩), .int .i64 0, .slice A2 ws.length c2, .slice none 0 0, .nilFunc] 81)).alloc (.cells #[.pointer (some ⟨w2.heap.size, 0, none⟩)] 41)) w2.heap.size 81 #[.pointer (some ⟨g, 0, none⟩), .int .i64 0, .slice A2 ws.length c2, .slice none 0 0, .nilFunc] := (Blk.new w2 _ _).alloc _
    have KP : Blk ((w2.alloc (.cells #[.pointer (some ⟨g, 0, none⟩), .int .i64 0, .slice A2 ws.length c2, .slice none 0 0, .nilFunc] 81)).alloc (.cells #[.pointer (some ⟨w2.heap.size, 0, none⟩)] 41)) (w2.heap.size + 1) 41 #[.pointer (some ⟨w2.heap.size, 0, none⟩)] := by
      have := Blk.new (w2.alloc (.cells #[.pointer (some ⟨g, 0, none⟩), .int .i64 0, .slice A2 ws.length c2, .slice none 0 0, .nilFunc] 81)) 41 #[.pointer (some ⟨w2.heap.size, 0, none⟩)]
      rwa [World.size_alloc] at this
    have o3 : OWd ((w2.alloc (.cells #[.pointer (some ⟨g, 0, none⟩), .int .i64 0, .slice A2 ws.length c2, .slice none 0 0, .nilFunc] 81)).alloc (.cells #[.pointer (some ⟨w2.heap.size, 0, none⟩)] 41)) w.heap.size A2 ws.length c2 ws := OV.below o2 b3
    have d3 := below_step (below_step d1 b2 (Nat.le_refl _)) b3 (Nat.le_refl _)
    have hz2 : w.heap.size ≤ w2.heap.size := Nat.le_trans d1.size b2.size
    have hz3 : w.heap.size < w2.heap.size := ((K.later b1).later b2).lt
    generalize (w2.alloc (.cells #[.pointer (some ⟨g, 0, none⟩), .int .i64 0, .slice A2 ws.length c2, .slice none 0 0, .nilFunc] 81)).alloc (.cells #[.pointer (some ⟨w2.heap.size, 0, none⟩)] 41) = w3 at *
    generalize w2.heap.size = gq at *
    clear o2 g2 b2 b3
    refine (SP.out _).mono ?_
    rintro e w4 ⟨rfl, b4⟩
    have hpdo : Cob.pdo v = if Cob.off v = true then 0 else Cob.id v := rfl
    generalize Cob.noR v = nr at *
    generalize Cob.off v = ov at *
    have b5 := alloc_one w4 (.cells #[.bool ov, .bool nr, .int .i64 (Cob.id v : Int)] 83)
    have b45 := below_step b4 b5 (Nat.le_refl _)
    have d5 := below_step d3 b45 (Nat.le_refl _)
    have KB := (Blk.new w4 83 #[.bool ov, .bool nr, .int .i64 (Cob.id v : Int)])
    have FB := KB.three
    have KG5 := KG.later b45
    have KP5 := KP.later b45
    have KC5 := KC.later b45
    have o5 := OV.below o3 b45
    have FG := KG5.five
    have FP := KP5.one
    have FC := KC5.three
    have hgl := KG.lt
    have hpl := KP.lt
    have hz4 := b4.size
    have hcl := KC.lt
    clear F3 KG KP KC o3 b4 SP CK
    have hne1 : ¬ w.heap.size = gq := by omega
    have hne2 : ¬ gq = w.heap.size := by omega
    by_cases ht : t ≤ 240
    · cases ov
      · have KG6 := KG5.set_ 1 (.int .i64 (Cob.id v : Int))
        have KG7 := KG6.set_ 4 (.func (.func 33) #[] #[])
        have f6 := KG6.frozen 4
        have f7 := KG7.frozen 4
        have KG8 := KG7.set_ 4 (.func (.func 34) #[] #[.pointer (some ⟨gq + 1, 0, none⟩)])
        have KP8 := (((KP5).far (p := ⟨gq, 1, none⟩) (by dsimp only; omega) (.int .i64 (Cob.id v : Int))).far (p := ⟨gq, 4, none⟩) (by dsimp only; omega) (.func (.func 33) #[] #[])).far (p := ⟨gq, 4, none⟩) (by dsimp only; omega) (.func (.func 34) #[] #[.pointer (some ⟨gq + 1, 0, none⟩)])
        have d8 := (((d5).setCell (p := ⟨gq, 1, none⟩) hz2 (.int .i64 (Cob.id v : Int))).setCell (p := ⟨gq, 4, none⟩) hz2 (.func (.func 33) #[] #[])).setCell (p := ⟨gq, 4, none⟩) hz2 (.func (.func 34) #[] #[.pointer (some ⟨gq + 1, 0, none⟩)])
        have o5_1 := OV.off (i := 1) (u := (.int .i64 (Cob.id v : Int))) o5 KG5 (by decide)
        have o5_2 := OV.off (i := 4) (u := (.func (.func 33) #[] #[])) o5_1 KG6 (by decide)
        have o5_3 := OV.off (i := 4) (u := (.func (.func 34) #[] #[.pointer (some ⟨gq + 1, 0, none⟩)])) o5_2 KG7 (by decide)
        go_wp2_with fail
        go_ret2
        refine .inl ⟨by first | rfl | trivial, d8, gq, gq + 1, A2, c2, rfl, hz2, by omega, by omega, ?_, fun h => KP8, o5_3, OS.none_ _ _ _ _⟩
        rw [show takeF t (gq + 1) = .func (.func 34) #[] #[.pointer (some ⟨gq + 1, 0, none⟩)] from if_pos ht, hpdo]
        exact KG8
      · have KG6 := KG5
        have KG7 := KG6.set_ 4 (.func (.func 33) #[] #[])
        have f6 := KG6.frozen 4
        have f7 := KG7.frozen 4
        have KG8 := KG7.set_ 4 (.func (.func 34) #[] #[.pointer (some ⟨gq + 1, 0, none⟩)])
        have KP8 := ((KP5).far (p := ⟨gq, 4, none⟩) (by dsimp only; omega) (.func (.func 33) #[] #[])).far (p := ⟨gq, 4, none⟩) (by dsimp only; omega) (.func (.func 34) #[] #[.pointer (some ⟨gq + 1, 0, none⟩)])
        have d8 := ((d5).setCell (p := ⟨gq, 4, none⟩) hz2 (.func (.func 33) #[] #[])).setCell (p := ⟨gq, 4, none⟩) hz2 (.func (.func 34) #[] #[.pointer (some ⟨gq + 1, 0, none⟩)])
        have o5_1 := OV.off (i := 4) (u := (.func (.func 33) #[] #[])) o5 KG6 (by decide)
        have o5_2 := OV.off (i := 4) (u := (.func (.func 34) #[] #[.pointer (some ⟨gq + 1, 0, none⟩)])) o5_1 KG7 (by decide)
        go_wp2_with fail
        go_ret2
        refine .inl ⟨by first | rfl | trivial, d8, gq, gq + 1, A2, c2, rfl, hz2, by omega, by omega, ?_, fun h => KP8, o5_2, OS.none_ _ _ _ _⟩
        rw [show takeF t (gq + 1) = .func (.func 34) #[] #[.pointer (some ⟨gq + 1, 0, none⟩)] from if_pos ht, hpdo]
        exact KG8
    · cases ov
      · have KG6 := KG5.set_ 1 (.int .i64 (Cob.id v : Int))
        have KG7 := KG6.set_ 4 (.func (.func 33) #[] #[])
        have f6 := KG6.frozen 4
        have f7 := KG7.frozen 4
        have KG8 := KG7
        have KP8 := ((KP5).far (p := ⟨gq, 1, none⟩) (by dsimp only; omega) (.int .i64 (Cob.id v : Int))).far (p := ⟨gq, 4, none⟩) (by dsimp only; omega) (.func (.func 33) #[] #[])
        have d8 := ((d5).setCell (p := ⟨gq, 1, none⟩) hz2 (.int .i64 (Cob.id v : Int))).setCell (p := ⟨gq, 4, none⟩) hz2 (.func (.func 33) #[] #[])
        have o5_1 := OV.off (i := 1) (u := (.int .i64 (Cob.id v : Int))) o5 KG5 (by decide)
        have o5_2 := OV.off (i := 4) (u := (.func (.func 33) #[] #[])) o5_1 KG6 (by decide)
        go_wp2_with fail
        go_ret2
        refine .inl ⟨by first | rfl | trivial, d8, gq, gq + 1, A2, c2, rfl, hz2, by omega, by omega, ?_, fun h => absurd h (by omega), o5_2, OS.none_ _ _ _ _⟩
        rw [show takeF t (gq + 1) = .func (.func 33) #[] #[] from if_neg (by omega), hpdo]
        exact KG8
      · have KG6 := KG5
        have KG7 := KG6.set_ 4 (.func (.func 33) #[] #[])
        have f6 := KG6.frozen 4
        have f7 := KG7.frozen 4
        have KG8 := KG7
        have KP8 := (KP5).far (p := ⟨gq, 4, none⟩) (by dsimp only; omega) (.func (.func 33) #[] #[])
        have d8 := (d5).setCell (p := ⟨gq, 4, none⟩) hz2 (.func (.func 33) #[] #[])
        have o5_1 := OV.off (i := 4) (u := (.func (.func 33) #[] #[])) o5 KG6 (by decide)
        go_wp2_with fail
        go_ret2
        refine .inl ⟨by first | rfl | trivial, d8, gq, gq + 1, A2, c2, rfl, hz2, by omega, by omega, ?_, fun h => absurd h (by omega), o5_1, OS.none_ _ _ _ _⟩
        rw [show takeF t (gq + 1) = .func (.func 33) #[] #[] from if_neg (by omega), hpdo]
        exact KG8
  · clear hcp
    have hr2 : (r == 0) = false := by simpa using hr
    have hr3 : (r != 0) = true := by simpa using hr
    replace hr := Lib.hid hr
    go_enter Tryz.func9, Tryz.ntmps9
    go_wp2_with fail
    refine (CK.out).mono ?_
    rintro e w1 ⟨rfl, b1⟩
    go_wp2_with fail
    go_ret2
    exact .inr ⟨hr.out, below_step b0 b1 (Nat.le_refl _), rfl⟩
set_option maxHeartbeats 1000000 in
theorem RpNew_nil (x y z : Value) (w : World) : Calls Tryz.prog 9 #[.pointer none, .agg #[x, y, z]] w fun e w' => e = .returned (.tuple #[.pointer none, .int .u32 100925511]) ∧ Below w.heap.size w w' := by
  have F0 := (Blk.new w 39 #[x, y, z]).three
  have C := Lib.hid (fun w => RCheck_nil x y z w)
  go_enter Tryz.func9, Tryz.ntmps9
  go_wp2_with fail
  refine (C.out _).mono ?_
  rintro e w1 ⟨rfl, b1⟩
  go_wp2_with fail
  go_ret2
  exact ⟨rfl, below_step (alloc_one _ _) b1 (Nat.le_refl _)⟩
end Go.Proofs.YtkddillihhjghaaGreat
