/-
  Walk: ParamsRight.
  Conditions: none.
-/
import Derived.Test.YtgkhpebhhkdgoaaGreatJ04
import Derived.Test.YtgkhpebhhkdgoaaGreatJ22
import Derived.Test.YtgkhpebhhkdgoaaGreatJ23
namespace Go.Proofs.YtgkhpebhhkdgoaaGreat.Pm
set_option linter.unusedVariables false
set_option linter.unusedSimpArgs false
theorem rpdo_parts {D : Dc.Dic} {k : Int} {v : Nat} {t : Int} {ws : List Nat} (e : rpdoS D k = some (v, t, ws)) : v < 4294967296 ∧ (∀ x ∈ ws, x < 4294967296) ∧ inS D k = Rp.checkS D.l v t ws := by
  refine ⟨?_, ?_, by unfold inS; rw [e]⟩
  · unfold rpdoS at e
    split at e
    · cases e
    · split at e
      · cases e
      · injection e with e
        injection e with e1 e2
        have := num_range D (5120 + k) 1
        omega
  · unfold rpdoS at e
    split at e
    · cases e
    · split at e
      · cases e
      · injection e with e
        injection e with e1 e2
        injection e2 with e2 e3
        rw [← e3]
        exact wordsK_lt _ _ _
theorem tpdo_parts {D : Dc.Dic} {k : Int} {v : Nat} {t inh ev : Int} {ws : List Nat} (e : tpdoS D k = some (v, t, inh, ev, ws)) : v < 4294967296 ∧ (∀ x ∈ ws, x < 4294967296) ∧ outS D k = Tp.checkS D.l v t inh ev ws := by
  refine ⟨?_, ?_, by unfold outS; rw [e]⟩
  · unfold tpdoS at e
    split at e
    · cases e
    · split at e
      · cases e
      · injection e with e
        injection e with e1 e2
        have := num_range D (6144 + k) 1
        omega
  · unfold tpdoS at e
    split at e
    · cases e
    · split at e
      · cases e
      · injection e with e
        injection e with e1 e2
        injection e2 with e2 e3
        injection e3 with e3 e4
        injection e4 with e4 e5
        rw [← e5]
        exact wordsK_lt _ _ _
theorem rpdo_no {D : Dc.Dic} {k : Int} (e : rpdoS D k = none) : inS D k = 0 := by unfold inS; rw [e]
theorem tpdo_no {D : Dc.Dic} {k : Int} (e : tpdoS D k = none) : outS D k = 0 := by unfold outS; rw [e]
end Go.Proofs.YtgkhpebhhkdgoaaGreat.Pm
namespace Go.Proofs.YtgkhpebhhkdgoaaGreat
set_option linter.unusedVariables false
set_option linter.unusedSimpArgs false
open Go.ChangeShapes Go.WideShapes Go.ChangeAt Go.RowKit Go.Sort
/-- Four codes. -/
def arr (f : Nat → Int) : Array Value := #[.int .u32 (f 0), .int .u32 (f 1), .int .u32 (f 2), .int .u32 (f 3)]
def sofar (f : Nat → Int) (k : Nat) : Nat → Int := fun m => if m < k then f m else 0
theorem arr_at {w : World} {g : Nat} {t : TypeId} {f : Nat → Int} (h : Blk w g t (arr f)) {k : Nat} (hk : k < 4) : w.cell? ⟨g, k, none⟩ = some (.int .u32 (f k)) := by
  rcases (show k = 0 ∨ k = 1 ∨ k = 2 ∨ k = 3 by omega) with rfl | rfl | rfl | rfl
  · exact h.cell 0
  · exact h.cell 1
  · exact h.cell 2
  · exact h.cell 3
theorem arr_set {w : World} {g : Nat} {t : TypeId} {f : Nat → Int} {k : Nat} (h : Blk w g t (arr (sofar f k))) (hk : k < 4) : Blk (w.setCell ⟨g, k, none⟩ (.int .u32 (f k))) g t (arr (sofar f (k + 1))) := by
  have := h.set_ k (.int .u32 (f k))
  have e : (arr (sofar f k)).setIfInBounds k (.int .u32 (f k)) = arr (sofar f (k + 1)) := by
    rcases (show k = 0 ∨ k = 1 ∨ k = 2 ∨ k = 3 by omega) with rfl | rfl | rfl | rfl <;> rfl
  rw [← e]
  exact this
theorem arr_keep {w : World} {g : Nat} {t : TypeId} {f : Nat → Int} {k : Nat} (h : Blk w g t (arr (sofar f k))) (hf : f k = 0) : Blk w g t (arr (sofar f (k + 1))) := by
  have e : sofar f k = sofar f (k + 1) := by
    funext m
    unfold sofar
    by_cases h1 : m < k
    · rw [if_pos h1, if_pos (by omega)]
    · rw [if_neg h1]
      by_cases h2 : m < k + 1
      · obtain rfl : m = k := by omega
        rw [if_pos h2, hf]
      · rw [if_neg h2]
  rw [← e]
  exact h
set_option maxRecDepth 100000 in
set_option maxHeartbeats 16000000 in
theorem ParamsRight_walk (W : World) {A0 A1 A2 : Option Addr} {n0 c0 n1 c1 n2 c2 : Nat} {xi xj : Int} {es : List Ent.En} {vls : List Dc.Vl} {bs : List UInt8} (h0 : REn W W.heap.size W.heap.size A0 n0 c0 es) (hnm : ∀ e ∈ es, e.name.length ≤ 9223372036854775807) (h1 : RVl W W.heap.size W.heap.size A1 n1 c1 vls) (wi : (Lit.int .i64 xi).wf = true) (wj : (Lit.int .i64 xj).wf = true) (h2 : RB W W.heap.size A2 n2 c2 bs) :
    Calls Tryz.prog 4 #[.agg #[.slice A0 n0 c0, .slice A1 n1 c1, .int .i64 xi, .int .i64 xj, .slice A2 n2 c2]] W fun e W' => e = .returned (.bool true) ∧ Below W.heap.size W W' := by
  have b0 := alloc_one W (.cells #[.slice A0 n0 c0, .slice A1 n1 c1, .int .i64 xi, .int .i64 xj, .slice A2 n2 c2] 28)
  have K := Blk.new W 28 #[.slice A0 n0 c0, .slice A1 n1 c1, .int .i64 xi, .int .i64 xj, .slice A2 n2 c2]
  have F0 := K.cin
  have MD := Lib.hid (made33_any (A2 := A2) (n2 := n2) (c2 := c2) (xi := xi) (xj := xj) _ (h0.below b0 (Nat.le_refl _)) hnm (h1.below b0 (Nat.le_refl _)) b0.size)
  clear h0 hnm h1
  go_enter Tryz.func4, Tryz.ntmps4
  go_wp2_with fail
  refine (MD.out).mono ?_
  unfold MadeP
  rintro e w1 (⟨rfl, b1⟩ | ⟨g, g', D, rfl, b1, hn2, TW, hfine, hdf⟩)
  · go_wp2_with fail
    refine (known33_any _).mono ?_
    rintro e w9 ⟨rfl, b9⟩
    go_wp2_with fail
    go_ret
    exact ⟨rfl, below_step (below_step b0 b1 (Nat.le_refl _)) b9 (Nat.le_refl _)⟩
  have d1 := below_step b0 b1 (Nat.le_refl _)
  have K1 := K.later b1
  have hb0z := b0.size
  clear F0 MD b0 b1 K
  obtain ⟨FF, FF', ⟨gv, lc, vc, la, vA, xs, vs, hd, hFF⟩, _, _⟩ := TW
  have hdd : ∀ e ∈ D.l, e.dflt.length ≤ 1000000 := fun e he => by have := hdf e he; omega
  have hvv : ∀ v ∈ D.v, v.length ≤ 1000000 := fun v hv => by have := hfine.sm v hv; omega
  obtain ⟨fi, hfi⟩ : ∃ fi : Nat → Int, fi = fun (m : Nat) => Pm.inS D (m : Int) := ⟨_, rfl⟩
  obtain ⟨fo, hfo⟩ : ∃ fo : Nat → Int, fo = fun (m : Nat) => Pm.outS D (m : Int) := ⟨_, rfl⟩
  have HFI := Lib.hid (show ∀ m : Nat, fi m = Pm.inS D (m : Int) from fun m => by rw [hfi])
  have HFO := Lib.hid (show ∀ m : Nat, fo m = Pm.outS D (m : Int) from fun m => by rw [hfo])
  clear hfi hfo
  have ba := alloc_two w1 (.cells (arr (sofar fi 0)) 40) (.cells (arr (sofar fo 0)) 40)
  have KA0 := (Blk.new w1 40 (arr (sofar fi 0))).alloc (.cells (arr (sofar fo 0)) 40)
  have KB0 := Blk.new (w1.alloc (.cells (arr (sofar fi 0)) 40)) 40 (arr (sofar fo 0))
  have za : arr (sofar fi 0) = #[.int .u32 0, .int .u32 0, .int .u32 0, .int .u32 0] := rfl
  have zb : arr (sofar fo 0) = #[.int .u32 0, .int .u32 0, .int .u32 0, .int .u32 0] := rfl
  have sa : (w1.alloc (.cells (arr (sofar fi 0)) 40)).heap.size = w1.heap.size + 1 := by simp
  rw [sa] at KB0
  clear sa
  rw [za, zb] at ba
  have KA1 : Blk ((w1.alloc (.cells #[.int .u32 0, .int .u32 0, .int .u32 0, .int .u32 0] 40)).alloc (.cells #[.int .u32 0, .int .u32 0, .int .u32 0, .int .u32 0] 40)) w1.heap.size 40 (arr (sofar fi 0)) := KA0
  have KB1 : Blk ((w1.alloc (.cells #[.int .u32 0, .int .u32 0, .int .u32 0, .int .u32 0] 40)).alloc (.cells #[.int .u32 0, .int .u32 0, .int .u32 0, .int .u32 0] 40)) (w1.heap.size + 1) 40 (arr (sofar fo 0)) := KB0
  clear KA0 KB0 za zb
  have RPo := Lib.hid (fun (w2 : World) (hb : Below w1.heap.size w1 w2) (k : Int) => Rpdo_any k (hd.below hb) hdd hvv)
  have TPo := Lib.hid (fun (w2 : World) (hb : Below w1.heap.size w1 w2) (k : Int) => Tpdo_any k (hd.below hb) hdd hvv)
  have CKr := Lib.hid (fun (w2 : World) (hb : Below w1.heap.size w1 w2) (v : Nat) (hv' : v < 4294967296) (t : Int) (A : Option Addr) (n c B : Nat) (ws : List Nat) (hw : RW w2 B A n c ws) (hwl : ∀ x ∈ ws, x < 4294967296) (hB : B ≤ w2.heap.size) => RCheck_any v hv' t (hd.below hb) hdd hw hwl hB)
  have CKt := Lib.hid (fun (w2 : World) (hb : Below w1.heap.size w1 w2) (v : Nat) (hv' : v < 4294967296) (t inh ev : Int) (A : Option Addr) (n c B : Nat) (ws : List Nat) (hw : RW w2 B A n c ws) (hwl : ∀ x ∈ ws, x < 4294967296) (hB : B ≤ w2.heap.size) => TCheck_any v hv' t inh ev (hd.below hb) hdd hw hwl hB)
  go_wp2_with fail
  generalize (w1.alloc (.cells #[.int .u32 0, .int .u32 0, .int .u32 0, .int .u32 0] 40)).alloc (.cells #[.int .u32 0, .int .u32 0, .int .u32 0, .int .u32 0] 40) = wz at *
  go_loopw [8] (fun i wr => ∃ k : Nat, k ≤ 4 ∧ i = .int .i64 k ∧ Below w1.heap.size w1 wr ∧ Blk wr w1.heap.size 40 (arr (sofar fi k)) ∧ Blk wr (w1.heap.size + 1) 40 (arr (sofar fo k))) (fun i _ => 4 - (intOf i).toNat)
  case atStart => exact ⟨0, by omega, rfl, ba, KA1, KB1⟩
  case round =>
    clear ba KA1 KB1
    obtain ⟨k, hk, rfl, br, KA, KB⟩ := hrel
    obtain ⟨wq, hwq⟩ : ∃ w, w = wr := ⟨wr, rfl⟩
    subst hwq
    by_cases hlt : k < 4
    · have i0 : (0 : Int) ≤ (k : Int) := by omega
      have i1 : (k : Int) < 4 := by omega
      have RP := RPo.out wq br (k : Int)
      have hfik := HFI.out k
      have hfok := HFO.out k
      have HPN := Lib.hid (fun (e : Pm.rpdoS D (k : Int) = none) => hfik.trans (Pm.rpdo_no e))
      have HPS := Lib.hid (fun v t ws (e : Pm.rpdoS D (k : Int) = some (v, t, ws)) => (show _ ∧ _ ∧ fi k = Rp.checkS D.l v t ws from ⟨(Pm.rpdo_parts e).1, (Pm.rpdo_parts e).2.1, hfik.trans (Pm.rpdo_parts e).2.2⟩))
      have HTN := Lib.hid (fun (e : Pm.tpdoS D (k : Int) = none) => hfok.trans (Pm.tpdo_no e))
      have HTS := Lib.hid (fun v t inh ev ws (e : Pm.tpdoS D (k : Int) = some (v, t, inh, ev, ws)) => (show _ ∧ _ ∧ fo k = Tp.checkS D.l v t inh ev ws from ⟨(Pm.tpdo_parts e).1, (Pm.tpdo_parts e).2.1, hfok.trans (Pm.tpdo_parts e).2.2⟩))
      clear hfik hfok
      unfold RpP at RP
      cases ho : Pm.rpdoS D (k : Int) with
      | none =>
        rw [ho] at RP
        dsimp only at RP
        have h0 := HPN.out ho
        replace RP := Lib.hid RP
        clear ho HPN HPS
        have H0 := Lib.hid h0
        clear h0
        go_wp2_with fail
        refine (RP.out).mono ?_
        rintro e w2 ⟨rfl, b2⟩
        have b3 := alloc_one w2 (.cells #[.int .u32 0, .int .i64 0, .slice none 0 0] 43)
        have b23 := below_step b2 b3 (Nat.le_refl _)
        have br3 := below_step br b23 (Nat.le_refl _)
        have KA3 := arr_keep (KA.later b23) H0.out
        have KB3 := KB.later b23
        have TP := TPo.out _ br3 (k : Int)
        unfold TpP at TP
        cases ho : Pm.tpdoS D (k : Int) with
        | none =>
          rw [ho] at TP
          dsimp only at TP
          have h0 := HTN.out ho
          replace TP := Lib.hid TP
          have H0t := Lib.hid h0
          clear ho HTN HTS h0
          go_wp2_with fail
          refine (TP.out).mono ?_
          rintro e w6 ⟨rfl, b6⟩
          have b7 := alloc_one w6 (.cells #[.int .u32 0, .int .i64 0, .int .i64 0, .int .i64 0, .slice none 0 0] 48)
          have b67 := below_step b6 b7 (Nat.le_refl _)
          have br7 := below_step br3 b67 (Nat.le_refl _)
          have KA7 := KA3.later b67
          have KB7 := arr_keep (KB3.later b67) H0t.out
          go_wp2_with fail
          go_roundw
          case rel => exact ⟨k + 1, by omega, by go_num, br7, KA7, KB7⟩
          case measure => simp [intOf] <;> omega
        | some qt =>
          obtain ⟨vt, tt, inh, ev, wst⟩ := qt
          rw [ho] at TP
          dsimp only at TP
          obtain ⟨hv2, hw2, hck2⟩ := HTS.out vt tt inh ev wst ho
          replace TP := Lib.hid TP
          clear ho HTN HTS
          have HCK2 := Lib.hid hck2
          clear hck2
          go_wp2_with fail
          refine (TP.out).mono ?_
          rintro e w6 ⟨A6, c6, rfl, o6, b6⟩
          have b7 := alloc_one w6 (.cells #[.int .u32 (vt : Int), .int .i64 tt, .int .i64 inh, .int .i64 ev, .slice A6 wst.length c6] 48)
          have KC := (Blk.new w6 48 #[.int .u32 (vt : Int), .int .i64 tt, .int .i64 inh, .int .i64 ev, .slice A6 wst.length c6]).cin
          have b67 := below_step b6 b7 (Nat.le_refl _)
          have br7 := below_step br3 b67 (Nat.le_refl _)
          have KA7 := KA3.later b67
          have KB7 := KB3.later b67
          have CC := CKt.out _ br7 vt hv2 tt inh ev _ _ _ _ _ ((o6.below b7).rw) hw2 (Nat.le_refl _)
          rw [← HCK2.out] at CC
          have CC := Lib.hid CC
          have HFB := Lib.hid (show ∀ w', Below (w6.alloc (.cells #[.int .u32 (vt : Int), .int .i64 tt, .int .i64 inh, .int .i64 ev, .slice A6 wst.length c6] 48)).heap.size (w6.alloc (.cells #[.int .u32 (vt : Int), .int .i64 tt, .int .i64 inh, .int .i64 ev, .slice A6 wst.length c6] 48)) w' → w'.cell? ⟨w1.heap.size + 1, k, none⟩ = some (.int .u32 (sofar fo k k)) ∧ w'.frozen? ⟨w1.heap.size + 1, k, none⟩ = false from fun w' hb => ⟨arr_at (KB7.later hb) hlt, (KB7.later hb).frozen k⟩)
          clear hv2 hw2 HCK2 o6
          go_wp2_with fail
          refine (CC.out).mono ?_
          rintro e w8 ⟨rfl, b8⟩
          obtain ⟨fa8, fr8⟩ := HFB.out _ b8
          have br8 := below_step br7 b8 (Nat.le_refl _)
          have KB9 := arr_set (KB7.later b8) hlt
          have KA9 := (KA7.later b8).far (p := ⟨w1.heap.size + 1, k, none⟩) (by dsimp only; omega) (.int .u32 (fo k))
          have br9 := br8.setCell (p := ⟨w1.heap.size + 1, k, none⟩) (Nat.le_succ _) (.int .u32 (fo k))
          generalize sofar fo k k = zy at *
          clear KC CC HFB
          go_wp2_with fail
          go_roundw
          case rel => exact ⟨k + 1, by omega, by go_num, br9, KA9, KB9⟩
          case measure => simp [intOf] <;> omega
      | some qr =>
        obtain ⟨v, t, ws⟩ := qr
        rw [ho] at RP
        dsimp only at RP
        obtain ⟨hv1, hw1, hck⟩ := HPS.out v t ws ho
        replace RP := Lib.hid RP
        clear ho HPN HPS
        have HCK := Lib.hid hck
        clear hck
        go_wp2_with fail
        refine (RP.out).mono ?_
        rintro e w2 ⟨A2', c2', rfl, o2, b2⟩
        have b3 := alloc_one w2 (.cells #[.int .u32 (v : Int), .int .i64 t, .slice A2' ws.length c2'] 43)
        have KC := (Blk.new w2 43 #[.int .u32 (v : Int), .int .i64 t, .slice A2' ws.length c2']).three
        have b23 := below_step b2 b3 (Nat.le_refl _)
        have br3 := below_step br b23 (Nat.le_refl _)
        have KA3 := KA.later b23
        have KB3 := KB.later b23
        have CC := CKr.out _ br3 v hv1 t _ _ _ _ _ ((o2.below b3).rw) hw1 (Nat.le_refl _)
        rw [← HCK.out] at CC
        have FA3 := KA3.cell k
        have CC := Lib.hid CC
        have HFA := Lib.hid (show ∀ w', Below (w2.alloc (.cells #[.int .u32 (v : Int), .int .i64 t, .slice A2' ws.length c2'] 43)).heap.size (w2.alloc (.cells #[.int .u32 (v : Int), .int .i64 t, .slice A2' ws.length c2'] 43)) w' → w'.cell? ⟨w1.heap.size, k, none⟩ = some (.int .u32 (sofar fi k k)) ∧ w'.frozen? ⟨w1.heap.size, k, none⟩ = false from fun w' hb => ⟨arr_at (KA3.later hb) hlt, (KA3.later hb).frozen k⟩)
        clear hv1 hw1 HCK FA3 o2
        go_wp2_with fail
        refine (CC.out).mono ?_
        rintro e w4 ⟨rfl, b4⟩
        obtain ⟨fa4, fr4⟩ := HFA.out _ b4
        have br4 := below_step br3 b4 (Nat.le_refl _)
        have KA5 := arr_set (KA3.later b4) hlt
        have KB5 := (KB3.later b4).far (p := ⟨w1.heap.size, k, none⟩) (by dsimp only; omega) (.int .u32 (fi k))
        have br5 := br4.setCell (p := ⟨w1.heap.size, k, none⟩) (Nat.le_refl _) (.int .u32 (fi k))
        generalize sofar fi k k = zz at *
        have TP := TPo.out _ br5 (k : Int)
        clear KC CC HFA
        unfold TpP at TP
        cases ho : Pm.tpdoS D (k : Int) with
        | none =>
          rw [ho] at TP
          dsimp only at TP
          have h0 := HTN.out ho
          replace TP := Lib.hid TP
          have H0t := Lib.hid h0
          clear ho HTN HTS h0
          go_wp2_with fail
          refine (TP.out).mono ?_
          rintro e w6 ⟨rfl, b6⟩
          have b7 := alloc_one w6 (.cells #[.int .u32 0, .int .i64 0, .int .i64 0, .int .i64 0, .slice none 0 0] 48)
          have b67 := below_step b6 b7 (Nat.le_refl _)
          have br7 := below_step br5 b67 (Nat.le_refl _)
          have KA7 := KA5.later b67
          have KB7 := arr_keep (KB5.later b67) H0t.out
          go_wp2_with fail
          go_roundw
          case rel => exact ⟨k + 1, by omega, by go_num, br7, KA7, KB7⟩
          case measure => simp [intOf] <;> omega
        | some qt =>
          obtain ⟨vt, tt, inh, ev, wst⟩ := qt
          rw [ho] at TP
          dsimp only at TP
          obtain ⟨hv2, hw2, hck2⟩ := HTS.out vt tt inh ev wst ho
          replace TP := Lib.hid TP
          clear ho HTN HTS
          have HCK2 := Lib.hid hck2
          clear hck2
          go_wp2_with fail
          refine (TP.out).mono ?_
          rintro e w6 ⟨A6, c6, rfl, o6, b6⟩
          have b7 := alloc_one w6 (.cells #[.int .u32 (vt : Int), .int .i64 tt, .int .i64 inh, .int .i64 ev, .slice A6 wst.length c6] 48)
          have KC := (Blk.new w6 48 #[.int .u32 (vt : Int), .int .i64 tt, .int .i64 inh, .int .i64 ev, .slice A6 wst.length c6]).cin
          have b67 := below_step b6 b7 (Nat.le_refl _)
          have br7 := below_step br5 b67 (Nat.le_refl _)
          have KA7 := KA5.later b67
          have KB7 := KB5.later b67
          have CC := CKt.out _ br7 vt hv2 tt inh ev _ _ _ _ _ ((o6.below b7).rw) hw2 (Nat.le_refl _)
          rw [← HCK2.out] at CC
          have CC := Lib.hid CC
          have HFB := Lib.hid (show ∀ w', Below (w6.alloc (.cells #[.int .u32 (vt : Int), .int .i64 tt, .int .i64 inh, .int .i64 ev, .slice A6 wst.length c6] 48)).heap.size (w6.alloc (.cells #[.int .u32 (vt : Int), .int .i64 tt, .int .i64 inh, .int .i64 ev, .slice A6 wst.length c6] 48)) w' → w'.cell? ⟨w1.heap.size + 1, k, none⟩ = some (.int .u32 (sofar fo k k)) ∧ w'.frozen? ⟨w1.heap.size + 1, k, none⟩ = false from fun w' hb => ⟨arr_at (KB7.later hb) hlt, (KB7.later hb).frozen k⟩)
          clear hv2 hw2 HCK2 o6
          go_wp2_with fail
          refine (CC.out).mono ?_
          rintro e w8 ⟨rfl, b8⟩
          obtain ⟨fa8, fr8⟩ := HFB.out _ b8
          have br8 := below_step br7 b8 (Nat.le_refl _)
          have KB9 := arr_set (KB7.later b8) hlt
          have KA9 := (KA7.later b8).far (p := ⟨w1.heap.size + 1, k, none⟩) (by dsimp only; omega) (.int .u32 (fo k))
          have br9 := br8.setCell (p := ⟨w1.heap.size + 1, k, none⟩) (Nat.le_succ _) (.int .u32 (fo k))
          generalize sofar fo k k = zy at *
          clear KC CC HFB
          go_wp2_with fail
          go_roundw
          case rel => exact ⟨k + 1, by omega, by go_num, br9, KA9, KB9⟩
          case measure => simp [intOf] <;> omega
    · obtain rfl : k = 4 := by omega
      have Kq := K1.later br
      have Fq := Kq.cin
      have dq := below_step d1 br (Nat.le_refl _)
      have GU := Lib.hid (Guard_any xi xj (hd.below br) hdd hfine (h2.below dq) dq.size hn2)
      go_wp2_with fail
      refine (GU.out).mono ?_
      rintro e w2 ⟨⟨r, rfl, hr⟩, b2⟩
      have d2 := below_step dq b2 (Nat.le_refl _)
      have br2 := below_step br b2 (Nat.le_refl _)
      by_cases hr0 : r = 0
      case neg =>
        have er : (r == 0) = false := by simpa using hr0
        have er2 : (r != 0) = true := by simpa using hr0
        clear hr hr0 Fq
        go_wp2_with fail
        refine (known33_any _).mono ?_
        rintro e w9 ⟨rfl, b9⟩
        go_wp2_with fail
        go_ret
        exact ⟨rfl, below_step d2 b9 (Nat.le_refl _)⟩
      subst hr0
      obtain ⟨hm, hst⟩ := Pm.stays hr
      have K2 := Kq.later b2
      have F2 := K2.cin
      have KA2 := KA.later b2
      have KB2 := KB.later b2
      have SE := One.set (base := W.heap.size) (F := fun q => FF q ∧ q < w1.heap.size) ⟨gv, lc, vc, la, vA, xs, vs, (hd.cut).below br2, fun q hq => ⟨by have := (hFF q hq.1).1; omega, Nat.lt_of_lt_of_le hq.2 br2.size⟩⟩ (by have := d2.size; exact this) xi xj (h2.below d2) d2.size (by omega) hm
      have HST := Lib.hid (fun (k : Nat) (hk : k < 4) => (show (fi k = 0 → Pm.inS (Dc.pokeS D xi xj bs) (k : Int) = 0) ∧ (fo k = 0 → Pm.outS (Dc.pokeS D xi xj bs) (k : Int) = 0) from by
        have := hst (k : Int) (by omega) (by omega)
        rw [← HFI.out k, ← HFO.out k] at this
        exact this))
      have hdX : ∀ e ∈ (Dc.pokeS D xi xj bs).l, e.dflt.length ≤ 1000000 := by rw [Dc.poke_l]; exact hdd
      have hvX : ∀ v ∈ (Dc.pokeS D xi xj bs).v, v.length ≤ 1000000 := fun v hv => by have := (hfine.poke xi xj (b := bs) (by have := h2.len; omega)).sm v hv; omega
      have hXl := Dc.poke_l D xi xj bs
      generalize Dc.pokeS D xi xj bs = X at *
      replace SE := Lib.hid SE
      clear hr hst Fq RPo TPo CKr CKt hm HFI HFO GU
      go_wp2_with fail
      refine (SE.out).mono ?_
      rintro e w3 ⟨rfl, m3, d3', gv3, lc3, vc3, la3, vA3, xs3, vs3, hX, _⟩
      have d3 := d2.trans d3'
      have hFA : ∀ q, (FF q ∧ q < w1.heap.size) → q ≠ w1.heap.size ∧ q ≠ w1.heap.size + 1 := fun q hq => by omega
      have KA3 := KA2.mv m3 (fun e => (hFA _ e).1 rfl)
      have KB3 := KB2.mv m3 (fun e => (hFA _ e).2 rfl)
      have RPo := Lib.hid (fun (w4 : World) (hb : Below w3.heap.size w3 w4) (k : Int) => Rpdo_any k (hX.below hb) hdX hvX)
      have TPo := Lib.hid (fun (w4 : World) (hb : Below w3.heap.size w3 w4) (k : Int) => Tpdo_any k (hX.below hb) hdX hvX)
      have CKr := Lib.hid (fun (w4 : World) (hb : Below w3.heap.size w3 w4) (v : Nat) (hv' : v < 4294967296) (t : Int) (A : Option Addr) (n c B : Nat) (ws : List Nat) (hw : RW w4 B A n c ws) (hwl : ∀ x ∈ ws, x < 4294967296) (hB : B ≤ w4.heap.size) => RCheck_any v hv' t (hX.below hb) hdX hw hwl hB)
      have CKt := Lib.hid (fun (w4 : World) (hb : Below w3.heap.size w3 w4) (v : Nat) (hv' : v < 4294967296) (t inh ev : Int) (A : Option Addr) (n c B : Nat) (ws : List Nat) (hw : RW w4 B A n c ws) (hwl : ∀ x ∈ ws, x < 4294967296) (hB : B ≤ w4.heap.size) => TCheck_any v hv' t inh ev (hX.below hb) hdX hw hwl hB)
      clear SE F2 K2 KA2 KB2 hX m3 d3' hXl
      go_wp2_with fail
      go_loopw [14] (fun i wr => ∃ k : Nat, k ≤ 4 ∧ i = .int .i64 k ∧ Below w3.heap.size w3 wr) (fun i _ => 4 - (intOf i).toNat)
      case atStart => exact ⟨0, by omega, rfl, Below.refl _ _⟩
      case round =>
        obtain ⟨k, hk, rfl, br⟩ := hrel
        obtain ⟨wq, hwq⟩ : ∃ w, w = wr := ⟨wr, rfl⟩
        subst hwq
        by_cases hlt : k < 4
        · have i0 : (0 : Int) ≤ (k : Int) := by omega
          have i1 : (k : Int) < 4 := by omega
          have RP := RPo.out wq br (k : Int)
          obtain ⟨hs1, hs2⟩ := HST.out k hlt
          have HPS := Lib.hid (fun v t ws (e : Pm.rpdoS X (k : Int) = some (v, t, ws)) => (show _ ∧ _ ∧ (fi k = 0 → Rp.checkS X.l v t ws = 0) from ⟨(Pm.rpdo_parts e).1, (Pm.rpdo_parts e).2.1, fun h => by rw [← (Pm.rpdo_parts e).2.2]; exact hs1 h⟩))
          have HTS := Lib.hid (fun v t inh ev ws (e : Pm.tpdoS X (k : Int) = some (v, t, inh, ev, ws)) => (show _ ∧ _ ∧ (fo k = 0 → Tp.checkS X.l v t inh ev ws = 0) from ⟨(Pm.tpdo_parts e).1, (Pm.tpdo_parts e).2.1, fun h => by rw [← (Pm.tpdo_parts e).2.2]; exact hs2 h⟩))
          have ea : sofar fi 4 k = fi k := by unfold sofar; rw [if_pos hlt]
          have eb : sofar fo 4 k = fo k := by unfold sofar; rw [if_pos hlt]
          have HA := Lib.hid (show ∀ w', Below w3.heap.size w3 w' → w'.cell? ⟨w1.heap.size, k, none⟩ = some (.int .u32 (fi k)) from fun w' hb => by rw [arr_at (KA3.later hb) hlt, ea])
          have HB := Lib.hid (show ∀ w', Below w3.heap.size w3 w' → w'.cell? ⟨w1.heap.size + 1, k, none⟩ = some (.int .u32 (fo k)) from fun w' hb => by rw [arr_at (KB3.later hb) hlt, eb])
          clear hs1 hs2 ea eb
          generalize fi k = zi at *
          generalize fo k = zo at *
          unfold RpP at RP
          cases hp : Pm.rpdoS X (k : Int) with
          | none =>
            rw [hp] at RP
            dsimp only at RP
            replace RP := Lib.hid RP
            clear hp HPS
            go_wp2_with fail
            refine (RP.out).mono ?_
            rintro e w4 ⟨rfl, b4⟩
            have b5 := alloc_one w4 (.cells #[.int .u32 0, .int .i64 0, .slice none 0 0] 43)
            have br5 := below_step br (below_step b4 b5 (Nat.le_refl _)) (Nat.le_refl _)
            have TP := TPo.out _ br5 (k : Int)
            unfold TpP at TP
            cases ho : Pm.tpdoS X (k : Int) with
            | none =>
              rw [ho] at TP
              dsimp only at TP
              replace TP := Lib.hid TP
              clear ho HTS
              go_wp2_with fail
              refine (TP.out).mono ?_
              rintro e w6 ⟨rfl, b6⟩
              have b7 := alloc_one w6 (.cells #[.int .u32 0, .int .i64 0, .int .i64 0, .int .i64 0, .slice none 0 0] 48)
              have br7 := below_step br5 (below_step b6 b7 (Nat.le_refl _)) (Nat.le_refl _)
              go_wp2_with fail
              go_roundw
              case rel => exact ⟨k + 1, by omega, by go_num, br7⟩
              case measure => simp [intOf] <;> omega
            | some qt =>
              obtain ⟨vt, tt, inh, ev, wst⟩ := qt
              rw [ho] at TP
              dsimp only at TP
              obtain ⟨hv2, hw2, hck2⟩ := HTS.out vt tt inh ev wst ho
              replace TP := Lib.hid TP
              have HCK2 := Lib.hid hck2
              clear ho HTS hck2
              by_cases hzo : zo = 0
              · have ez : (zo == 0) = true := by simpa using hzo
                go_wp2_with fail
                refine (TP.out).mono ?_
                rintro e w6 ⟨A6, c6, rfl, o6, b6⟩
                have b7 := alloc_one w6 (.cells #[.int .u32 (vt : Int), .int .i64 tt, .int .i64 inh, .int .i64 ev, .slice A6 wst.length c6] 48)
                have KC := (Blk.new w6 48 #[.int .u32 (vt : Int), .int .i64 tt, .int .i64 inh, .int .i64 ev, .slice A6 wst.length c6]).cin
                have br7 := below_step br5 (below_step b6 b7 (Nat.le_refl _)) (Nat.le_refl _)
                have fb := HB.out _ br7
                have CC := CKt.out _ br7 vt hv2 tt inh ev _ _ _ _ _ ((o6.below b7).rw) hw2 (Nat.le_refl _)
                rw [HCK2.out hzo] at CC
                have CC := Lib.hid CC
                clear hv2 hw2 HCK2 o6 hzo
                go_wp2_with fail
                refine (CC.out).mono ?_
                rintro e w8 ⟨rfl, b8⟩
                have br8 := below_step br7 b8 (Nat.le_refl _)
                clear KC CC fb
                go_wp2_with fail
                go_roundw
                case rel => exact ⟨k + 1, by omega, by go_num, br8⟩
                case measure => simp [intOf] <;> omega
              · have ez : (zo == 0) = false := by simpa using hzo
                clear hzo
                go_wp2_with fail
                refine (TP.out).mono ?_
                rintro e w6 ⟨A6, c6, rfl, o6, b6⟩
                have b7 := alloc_one w6 (.cells #[.int .u32 (vt : Int), .int .i64 tt, .int .i64 inh, .int .i64 ev, .slice A6 wst.length c6] 48)
                have br7 := below_step br5 (below_step b6 b7 (Nat.le_refl _)) (Nat.le_refl _)
                have fb := HB.out _ br7
                clear hv2 hw2 HCK2 o6
                go_wp2_with fail
                go_roundw
                case rel => exact ⟨k + 1, by omega, by go_num, br7⟩
                case measure => simp [intOf] <;> omega
          | some qr =>
            obtain ⟨v, t, ws⟩ := qr
            rw [hp] at RP
            dsimp only at RP
            obtain ⟨hv1, hw1, hck⟩ := HPS.out v t ws hp
            replace RP := Lib.hid RP
            have HCK := Lib.hid hck
            clear hp HPS hck
            by_cases hzi : zi = 0
            · have ezi : (zi == 0) = true := by simpa using hzi
              go_wp2_with fail
              refine (RP.out).mono ?_
              rintro e w4 ⟨A4, c4, rfl, o4, b4⟩
              have b5 := alloc_one w4 (.cells #[.int .u32 (v : Int), .int .i64 t, .slice A4 ws.length c4] 43)
              have KD := (Blk.new w4 43 #[.int .u32 (v : Int), .int .i64 t, .slice A4 ws.length c4]).three
              have br4 := below_step br (below_step b4 b5 (Nat.le_refl _)) (Nat.le_refl _)
              have fa := HA.out _ br4
              have CC := CKr.out _ br4 v hv1 t _ _ _ _ _ ((o4.below b5).rw) hw1 (Nat.le_refl _)
              rw [HCK.out hzi] at CC
              have CC := Lib.hid CC
              clear hv1 hw1 HCK o4 hzi
              go_wp2_with fail
              refine (CC.out).mono ?_
              rintro e w5 ⟨rfl, b5'⟩
              have br5 := below_step br4 b5' (Nat.le_refl _)
              clear KD CC fa
              have TP := TPo.out _ br5 (k : Int)
              unfold TpP at TP
              cases ho : Pm.tpdoS X (k : Int) with
              | none =>
                rw [ho] at TP
                dsimp only at TP
                replace TP := Lib.hid TP
                clear ho HTS
                go_wp2_with fail
                refine (TP.out).mono ?_
                rintro e w6 ⟨rfl, b6⟩
                have b7 := alloc_one w6 (.cells #[.int .u32 0, .int .i64 0, .int .i64 0, .int .i64 0, .slice none 0 0] 48)
                have br7 := below_step br5 (below_step b6 b7 (Nat.le_refl _)) (Nat.le_refl _)
                go_wp2_with fail
                go_roundw
                case rel => exact ⟨k + 1, by omega, by go_num, br7⟩
                case measure => simp [intOf] <;> omega
              | some qt =>
                obtain ⟨vt, tt, inh, ev, wst⟩ := qt
                rw [ho] at TP
                dsimp only at TP
                obtain ⟨hv2, hw2, hck2⟩ := HTS.out vt tt inh ev wst ho
                replace TP := Lib.hid TP
                have HCK2 := Lib.hid hck2
                clear ho HTS hck2
                by_cases hzo : zo = 0
                · have ez : (zo == 0) = true := by simpa using hzo
                  go_wp2_with fail
                  refine (TP.out).mono ?_
                  rintro e w6 ⟨A6, c6, rfl, o6, b6⟩
                  have b7 := alloc_one w6 (.cells #[.int .u32 (vt : Int), .int .i64 tt, .int .i64 inh, .int .i64 ev, .slice A6 wst.length c6] 48)
                  have KC := (Blk.new w6 48 #[.int .u32 (vt : Int), .int .i64 tt, .int .i64 inh, .int .i64 ev, .slice A6 wst.length c6]).cin
                  have br7 := below_step br5 (below_step b6 b7 (Nat.le_refl _)) (Nat.le_refl _)
                  have fb := HB.out _ br7
                  have CC := CKt.out _ br7 vt hv2 tt inh ev _ _ _ _ _ ((o6.below b7).rw) hw2 (Nat.le_refl _)
                  rw [HCK2.out hzo] at CC
                  have CC := Lib.hid CC
                  clear hv2 hw2 HCK2 o6 hzo
                  go_wp2_with fail
                  refine (CC.out).mono ?_
                  rintro e w8 ⟨rfl, b8⟩
                  have br8 := below_step br7 b8 (Nat.le_refl _)
                  clear KC CC fb
                  go_wp2_with fail
                  go_roundw
                  case rel => exact ⟨k + 1, by omega, by go_num, br8⟩
                  case measure => simp [intOf] <;> omega
                · have ez : (zo == 0) = false := by simpa using hzo
                  clear hzo
                  go_wp2_with fail
                  refine (TP.out).mono ?_
                  rintro e w6 ⟨A6, c6, rfl, o6, b6⟩
                  have b7 := alloc_one w6 (.cells #[.int .u32 (vt : Int), .int .i64 tt, .int .i64 inh, .int .i64 ev, .slice A6 wst.length c6] 48)
                  have br7 := below_step br5 (below_step b6 b7 (Nat.le_refl _)) (Nat.le_refl _)
                  have fb := HB.out _ br7
                  clear hv2 hw2 HCK2 o6
                  go_wp2_with fail
                  go_roundw
                  case rel => exact ⟨k + 1, by omega, by go_num, br7⟩
                  case measure => simp [intOf] <;> omega
            · have ezi : (zi == 0) = false := by simpa using hzi
              clear hzi
              go_wp2_with fail
              refine (RP.out).mono ?_
              rintro e w4 ⟨A4, c4, rfl, o4, b4⟩
              have b5 := alloc_one w4 (.cells #[.int .u32 (v : Int), .int .i64 t, .slice A4 ws.length c4] 43)
              have br5 := below_step br (below_step b4 b5 (Nat.le_refl _)) (Nat.le_refl _)
              have fa := HA.out _ br5
              clear hv1 hw1 HCK o4
              have TP := TPo.out _ br5 (k : Int)
              unfold TpP at TP
              cases ho : Pm.tpdoS X (k : Int) with
              | none =>
                rw [ho] at TP
                dsimp only at TP
                replace TP := Lib.hid TP
                clear ho HTS
                go_wp2_with fail
                refine (TP.out).mono ?_
                rintro e w6 ⟨rfl, b6⟩
                have b7 := alloc_one w6 (.cells #[.int .u32 0, .int .i64 0, .int .i64 0, .int .i64 0, .slice none 0 0] 48)
                have br7 := below_step br5 (below_step b6 b7 (Nat.le_refl _)) (Nat.le_refl _)
                go_wp2_with fail
                go_roundw
                case rel => exact ⟨k + 1, by omega, by go_num, br7⟩
                case measure => simp [intOf] <;> omega
              | some qt =>
                obtain ⟨vt, tt, inh, ev, wst⟩ := qt
                rw [ho] at TP
                dsimp only at TP
                obtain ⟨hv2, hw2, hck2⟩ := HTS.out vt tt inh ev wst ho
                replace TP := Lib.hid TP
                have HCK2 := Lib.hid hck2
                clear ho HTS hck2
                by_cases hzo : zo = 0
                · have ez : (zo == 0) = true := by simpa using hzo
                  go_wp2_with fail
                  refine (TP.out).mono ?_
                  rintro e w6 ⟨A6, c6, rfl, o6, b6⟩
                  have b7 := alloc_one w6 (.cells #[.int .u32 (vt : Int), .int .i64 tt, .int .i64 inh, .int .i64 ev, .slice A6 wst.length c6] 48)
                  have KC := (Blk.new w6 48 #[.int .u32 (vt : Int), .int .i64 tt, .int .i64 inh, .int .i64 ev, .slice A6 wst.length c6]).cin
                  have br7 := below_step br5 (below_step b6 b7 (Nat.le_refl _)) (Nat.le_refl _)
                  have fb := HB.out _ br7
                  have CC := CKt.out _ br7 vt hv2 tt inh ev _ _ _ _ _ ((o6.below b7).rw) hw2 (Nat.le_refl _)
                  rw [HCK2.out hzo] at CC
                  have CC := Lib.hid CC
                  clear hv2 hw2 HCK2 o6 hzo
                  go_wp2_with fail
                  refine (CC.out).mono ?_
                  rintro e w8 ⟨rfl, b8⟩
                  have br8 := below_step br7 b8 (Nat.le_refl _)
                  clear KC CC fb
                  go_wp2_with fail
                  go_roundw
                  case rel => exact ⟨k + 1, by omega, by go_num, br8⟩
                  case measure => simp [intOf] <;> omega
                · have ez : (zo == 0) = false := by simpa using hzo
                  clear hzo
                  go_wp2_with fail
                  refine (TP.out).mono ?_
                  rintro e w6 ⟨A6, c6, rfl, o6, b6⟩
                  have b7 := alloc_one w6 (.cells #[.int .u32 (vt : Int), .int .i64 tt, .int .i64 inh, .int .i64 ev, .slice A6 wst.length c6] 48)
                  have br7 := below_step br5 (below_step b6 b7 (Nat.le_refl _)) (Nat.le_refl _)
                  have fb := HB.out _ br7
                  clear hv2 hw2 HCK2 o6
                  go_wp2_with fail
                  go_roundw
                  case rel => exact ⟨k + 1, by omega, by go_num, br7⟩
                  case measure => simp [intOf] <;> omega
        · obtain rfl : k = 4 := by omega
          go_wp2_with fail
          refine (known33_any _).mono ?_
          rintro e w9 ⟨rfl, b9⟩
          go_wp2_with fail
          go_ret
          exact ⟨rfl, below_step (below_step d3 br (Nat.le_refl _)) b9 (Nat.le_refl _)⟩
end Go.Proofs.YtgkhpebhhkdgoaaGreat
