/-
  Texts joined: PhaseTwo, MapRCheck, BitRUnp, MapRScat.
  Conditions: none.
-/
import Derived.Test.YtkddillihhjghaaGreatJ03
import Derived.Test.YtkddillihhjghaaGreatJ11
import Derived.Test.YtkddillihhjghaaGreatJ12
import Derived.Test.YtkddillihhjghaaGreatJ13
import Derived.Test.YtkddillihhjghaaGreatJ16
/-
  A region that draws its order where two operations can come up: both orders.
  Conditions: none.
-/
namespace Go.Proofs.YtkddillihhjghaaGreat
set_option linter.unusedVariables false
set_option linter.unusedSimpArgs false
open Go.RowKit Go.Sort
section
variable {P : Program} {Q : Exit → Act → World → Prop} {md : Region.Mode} {S : World → Prop}
theorem phase_one_of {l : List Oper} (i : Nat) (fuel : Nat) {listed : Array Bool} {a : Act} {w : World} (hi : i < l.length)
    (h : wpList P l.toArray (Qn (fun a' w' => Behind P md l Q S fuel (listed.setIfInBounds i true) a' w') Q) [nth l i] a w) : wpOp P l.toArray Q i (fun a' w' => S w' ∧ wpAnyH P md l.toArray Q S fuel (listed.setIfInBounds i true) a' w') a w := by
  have ho : l.toArray[i]? = some (nth l i) := by rw [List.getElem?_toArray]; exact nth_some l i hi
  have fin : ∀ a' w', Behind P md l Q S fuel (listed.setIfInBounds i true) a' w' → S w' ∧ wpAnyH P md l.toArray Q S fuel (listed.setIfInBounds i true) a' w' := fun a' w' ⟨S', h1, h2, h3⟩ => ⟨h2 _ h1, held_mono h2 _ _ _ _ h3⟩
  refine wpOp_mono fin ?_
  unfold wpOp
  simp only [ho]
  simp only [wpList] at h
  by_cases hw : Region.wanted (nth l i) (yielded l.toArray a.tmps) = true
  · rw [if_pos hw] at h ⊢
    rcases h with h | ⟨h1, a0, w0, h2⟩
    · exact .inl h
    · exact .inr ⟨h1, a0, w0, h2⟩
  · rw [if_neg hw] at h ⊢
    exact h
theorem phase_two {l : List Oper} (i j : Nat) {n : Nat} (fuel : Nat) {listed : Array Bool} {a : Act} {w : World} (hn : n = fuel + 1) (hr : Region.ready md l.toArray listed = [i, j]) (hi : i < l.length) (hj : j < l.length)
    (h1 : wpList P l.toArray (Qn (fun a' w' => Behind P md l Q S fuel (listed.setIfInBounds i true) a' w') Q) [nth l i] a w)
    (h2 : wpList P l.toArray (Qn (fun a' w' => Behind P md l Q S fuel (listed.setIfInBounds j true) a' w') Q) [nth l j] a w) : wpAnyH P md l.toArray Q S n listed a w := by
  subst hn
  refine ⟨(fun h0 => by rw [hr] at h0; cases h0), fun k hk => ?_⟩
  rw [hr] at hk
  simp only [List.mem_cons, List.not_mem_nil, or_false] at hk
  rcases hk with rfl | rfl
  · exact phase_one_of _ _ hi h1
  · exact phase_one_of _ _ hj h2
end
end Go.Proofs.YtkddillihhjghaaGreat
/-
  Walks: the reference's Check of layer 30.
  Conditions: none.
-/
namespace Go.Proofs.YtkddillihhjghaaGreat
set_option linter.unusedVariables false
set_option linter.unusedSimpArgs false
open Go.RowKit
set_option maxRecDepth 100000 in
set_option maxHeartbeats 4000000 in
theorem RMCheck_any {F : Nat → Prop} {w : World} {g gv lc vc : Nat} {lA vA : Option Addr} {xs vs : List Value} {D : Dc.Dic} {A : Option Addr} {n c B : Nat} {ws : List Nat} (inn : Bool) (h : DRt 77 w F g gv lA lc vA vc xs vs D) (hw : RW w B A n c ws) (hwl : ∀ x ∈ ws, x < 4294967296) (hB : B ≤ w.heap.size) : Calls Tryz.prog 39 #[.pointer (some ⟨g, 0, none⟩), .slice A n c, .bool inn] w fun e w' => e = .returned (.int .u32 (Mp.checkS D.l inn ws)) ∧ Below w.heap.size w w' := by
  have hl := hw.len
  have hn9 := hw.lt
  obtain ⟨hnc, hc9⟩ : n ≤ c ∧ c ≤ 9223372036854775807 := ⟨RV.le hw, RV.cap hw⟩
  have hs : Mp.checkS D.l inn ws = if 8 < n then 100925506 else Mp.checkF D.l inn ws n 0 := by unfold Mp.checkS; rw [hl]
  rw [hs]
  by_cases h8 : 8 < n
  · simp only [h8, if_true]
    go_enter Tryz.func39, Tryz.ntmps39
    go_wp2_with fail
    go_ret
    exact ⟨rfl, Below.refl _ _⟩
  · simp only [h8, if_false]
    clear hs
    generalize hg : Mp.checkF D.l inn ws n 0 = r
    have HG := Lib.hid hg
    clear hg
    go_enter Tryz.func39, Tryz.ntmps39
    go_wp2_with fail
    go_loopw [7] (fun i wr => ∃ k : Nat, k ≤ n ∧ i = .int .i64 k ∧ Below w.heap.size w wr ∧ Mp.checkF D.l inn ws (n - k) k = r) (fun i _ => n - (intOf i).toNat)
    case atStart => exact ⟨0, by omega, rfl, Below.refl _ _, HG.out⟩
    case round =>
      obtain ⟨k, hk, rfl, hbel, hrr⟩ := hrel
      by_cases hlt : k < n
      · obtain ⟨b, o, rfl, hbB, q0⟩ := (hw.below (hbel.mono hB)).at_ hlt
        have hwT := (hw.below (hbel.mono hB)).take (k := k + 1) (by omega)
        have SP := RMSplit_any (ws.getD k 0) (word_lt hwl k) wr
        have FD := rFind_any (Mp.ix (ws.getD k 0)) (Mp.sb (ws.getD k 0)) (h.below hbel)
        have SZ := fun (w1 : World) (hb : Below wr.heap.size wr w1) => RMSize_any w1 (hwT.below (hb.mono (Nat.le_trans hB hbel.size))) (by omega) (fun x hx => hwl x (List.mem_of_mem_take hx))
        rw [checkF_step hlt] at hrr
        unfold Dc.rfind at FD
        generalize ws.getD k 0 = x at *
        generalize Mp.sizeS (ws.take (k + 1)) = sz at *
        clear hwT
        cases hf : Dc.findS D.l (Mp.ix x) (Mp.sb x) with
        | none =>
          unfold Mp.oneS at hrr
          rw [hf] at FD hrr
          dsimp only at FD hrr
          cases hi : Dc.inB D.l (Mp.ix x)
          all_goals
            rw [hi] at FD hrr
            simp at hrr
            subst hrr
            simp only [if_true, Bool.false_eq_true, if_false] at FD
            clear hi hf
            generalize (Mp.ix x : Int) = ixx at FD SP
            generalize (Mp.sb x : Int) = sbx at FD SP
            replace FD := Lib.hid FD; replace SP := Lib.hid SP; replace SZ := Lib.hid SZ
            go_wp2_with fail
            refine (SP.out).mono ?_
            rintro e w1 ⟨rfl, rfl⟩
            go_wp2_with fail
            refine (FD.out).mono ?_
            rintro e w1 ⟨rfl, rfl⟩
            go_wp2_with fail
            go_ret
            exact ⟨rfl, hbel⟩
        | some kk =>
          have ho : Mp.oneS D.l inn x = if (D.l.getD kk Dc.en0).map = false ∨ ((Ty.kd (D.l.getD kk Dc.en0).type).bits : Int) ≠ (Mp.bt x : Int) ∨ (if inn = true then Ent.writS (D.l.getD kk Dc.en0) else Ent.readS (D.l.getD kk Dc.en0)) ≠ 0 then 100925505 else 0 := by unfold Mp.oneS; rw [hf]
          rw [hf] at FD
          dsimp only at FD
          generalize Mp.oneS D.l inn x = oo at *
          have hkk := (Dc.find_some hf).2.1
          clear hf
          obtain ⟨b', oo, A1, n1, c1, hA, hbB', hr', hc⟩ := (h.below hbel).entry hkk
          have hB2 := h.below hbel
          obtain ⟨t0, t1⟩ := hB2.two
          have hlc := hB2.lcap
          subst hA
          have e0 := hc 0 _ rfl
          have e1 := hc 1 _ rfl
          have e2 := hc 2 _ rfl
          have e3 := hc 3 _ rfl
          have e4 := hc 4 _ rfl
          have e5 := hc 5 _ rfl
          have e6 := hc 6 _ rfl
          have e7 := hc 7 _ rfl
          have e8 := hc 8 _ rfl
          have e9 := hc 9 _ rfl
          have e10 := hc 10 _ rfl
          simp only [Nat.add_zero] at e0
          clear hc hr' hB2
          generalize D.l.getD kk Dc.en0 = en at *
          obtain ⟨ix, sb, nm, ty, ac, mp, st, mx, lo, hi, df⟩ := en
          dsimp only at e0 e1 e2 e3 e4 e5 e6 e7 e8 e9 e10 ho
          have TB := Lib.hid (fun w => RTBits_any ty w)
          have OR := fun A n c w => RReadable_any ⟨ix, sb, nm, ty, ac, mp, st, mx, lo, hi, df⟩ A n c w
          have OW := fun A n c w => RWritable_any ⟨ix, sb, nm, ty, ac, mp, st, mx, lo, hi, df⟩ A n c w
          unfold enV at OR OW
          dsimp only at OR OW
          generalize Ent.readS (⟨ix, sb, nm, ty, ac, mp, st, mx, lo, hi, df⟩ : Ent.En) = rr at *
          generalize Ent.writS (⟨ix, sb, nm, ty, ac, mp, st, mx, lo, hi, df⟩ : Ent.En) = rw_ at *
          generalize ((Ty.kd ty).bits : Int) = kb at *
          generalize (Mp.bt x : Int) = vb at *
          generalize (Mp.ix x : Int) = ixx at FD SP
          generalize (Mp.sb x : Int) = sbx at FD SP
          generalize D.l.length = m at *
          replace OR := Lib.hid OR; replace OW := Lib.hid OW; replace FD := Lib.hid FD; replace SP := Lib.hid SP; replace SZ := Lib.hid SZ
          have K0 := Blk.new wr 68 #[.int .i64 ix, .int .i64 sb, .string (T nm), .int .i64 ty, .int .i64 ac, .bool mp, .bool st, .int .i64 mx, .int .i64 lo, .int .i64 hi, .slice A1 n1 c1]
          have T0 := K0.eleven
          go_wp2_with fail
          refine (SP.out).mono ?_
          rintro e w1 ⟨rfl, rfl⟩
          go_wp2_with fail
          refine (FD.out).mono ?_
          rintro e w1 ⟨rfl, rfl⟩
          cases mp
          · simp at ho
            subst ho
            simp at hrr
            subst hrr
            go_wp2_with fail
            go_ret
            exact ⟨rfl, below_step hbel (alloc_one _ _) (Nat.le_refl _)⟩
          · by_cases hb : kb = vb
            · subst hb
              cases inn
              · by_cases hr : rr = 0
                · subst hr
                  simp at ho
                  subst ho
                  by_cases h64 : 64 < sz
                  · simp [h64] at hrr
                    subst hrr
                    go_wp2_with fail
                    refine (TB.out _).mono ?_
                    rintro e w2 ⟨rfl, rfl⟩
                    go_wp2_with fail
                    refine (OR.out _ _ _ _).mono ?_
                    rintro e w3 ⟨rfl, b3⟩
                    have d3 := below_step (alloc_one wr _) b3 (Nat.le_refl _)
                    go_wp2_with fail
                    refine (SZ.out _ d3).mono ?_
                    rintro e w4 ⟨rfl, rfl⟩
                    go_wp2_with fail
                    go_ret
                    exact ⟨rfl, below_step hbel d3 (Nat.le_refl _)⟩
                  · simp [h64] at hrr
                    have HRR := Lib.hid hrr
                    clear hrr
                    go_wp2_with fail
                    refine (TB.out _).mono ?_
                    rintro e w2 ⟨rfl, rfl⟩
                    go_wp2_with fail
                    refine (OR.out _ _ _ _).mono ?_
                    rintro e w3 ⟨rfl, b3⟩
                    have d3 := below_step (alloc_one wr _) b3 (Nat.le_refl _)
                    go_wp2_with fail
                    refine (SZ.out _ d3).mono ?_
                    rintro e w4 ⟨rfl, rfl⟩
                    go_wp2_with fail
                    go_roundw
                    case rel => exact ⟨k + 1, by omega, by go_num, below_step hbel d3 (Nat.le_refl _), HRR.out⟩
                    case measure => simp [intOf] <;> omega
                · simp [hr] at ho
                  subst ho
                  simp at hrr
                  subst hrr
                  have hr2 : (rr == 0) = false := by simpa using hr
                  have hr3 : (rr != 0) = true := by simpa using hr
                  replace hr := Lib.hid hr
                  go_wp2_with fail
                  refine (TB.out _).mono ?_
                  rintro e w2 ⟨rfl, rfl⟩
                  go_wp2_with fail
                  refine (OR.out _ _ _ _).mono ?_
                  rintro e w3 ⟨rfl, b3⟩
                  have d3 := below_step (alloc_one wr _) b3 (Nat.le_refl _)
                  go_wp2_with fail
                  go_ret
                  exact ⟨rfl, below_step hbel d3 (Nat.le_refl _)⟩
              · by_cases hr : rw_ = 0
                · subst hr
                  simp at ho
                  subst ho
                  by_cases h64 : 64 < sz
                  · simp [h64] at hrr
                    subst hrr
                    go_wp2_with fail
                    refine (TB.out _).mono ?_
                    rintro e w2 ⟨rfl, rfl⟩
                    go_wp2_with fail
                    refine (OW.out _ _ _ _).mono ?_
                    rintro e w3 ⟨rfl, b3⟩
                    have d3 := below_step (alloc_one wr _) b3 (Nat.le_refl _)
                    go_wp2_with fail
                    refine (SZ.out _ d3).mono ?_
                    rintro e w4 ⟨rfl, rfl⟩
                    go_wp2_with fail
                    go_ret
                    exact ⟨rfl, below_step hbel d3 (Nat.le_refl _)⟩
                  · simp [h64] at hrr
                    have HRR := Lib.hid hrr
                    clear hrr
                    go_wp2_with fail
                    refine (TB.out _).mono ?_
                    rintro e w2 ⟨rfl, rfl⟩
                    go_wp2_with fail
                    refine (OW.out _ _ _ _).mono ?_
                    rintro e w3 ⟨rfl, b3⟩
                    have d3 := below_step (alloc_one wr _) b3 (Nat.le_refl _)
                    go_wp2_with fail
                    refine (SZ.out _ d3).mono ?_
                    rintro e w4 ⟨rfl, rfl⟩
                    go_wp2_with fail
                    go_roundw
                    case rel => exact ⟨k + 1, by omega, by go_num, below_step hbel d3 (Nat.le_refl _), HRR.out⟩
                    case measure => simp [intOf] <;> omega
                · simp [hr] at ho
                  subst ho
                  simp at hrr
                  subst hrr
                  have hr2 : (rw_ == 0) = false := by simpa using hr
                  have hr3 : (rw_ != 0) = true := by simpa using hr
                  replace hr := Lib.hid hr
                  go_wp2_with fail
                  refine (TB.out _).mono ?_
                  rintro e w2 ⟨rfl, rfl⟩
                  go_wp2_with fail
                  refine (OW.out _ _ _ _).mono ?_
                  rintro e w3 ⟨rfl, b3⟩
                  have d3 := below_step (alloc_one wr _) b3 (Nat.le_refl _)
                  go_wp2_with fail
                  go_ret
                  exact ⟨rfl, below_step hbel d3 (Nat.le_refl _)⟩
            · simp [hb] at ho
              subst ho
              simp at hrr
              subst hrr
              have hk2 : (kb == vb) = false := by simpa using hb
              have hk3 : (kb != vb) = true := by simpa using hb
              replace hb := Lib.hid hb
              cases inn
              all_goals
                go_wp2_with fail
                refine (TB.out _).mono ?_
                rintro e w2 ⟨rfl, rfl⟩
                go_wp2_with fail
                go_ret
                exact ⟨rfl, below_step hbel (alloc_one _ _) (Nat.le_refl _)⟩
      · obtain rfl : k = n := by omega
        rw [Nat.sub_self] at hrr
        have hrr2 : r = 0 := hrr.symm
        subst hrr2
        go_wp2_with fail
        go_ret
        exact ⟨rfl, hbel⟩
end Go.Proofs.YtkddillihhjghaaGreat
/-
  Walks: the reference's Unpack.
  Conditions: none.
-/
namespace Go.Proofs.YtkddillihhjghaaGreat
set_option linter.unusedVariables false
set_option linter.unusedSimpArgs false
open Go.RowKit
set_option maxRecDepth 100000 in
set_option maxHeartbeats 4000000 in
theorem RUnpack_ok {A : Option Addr} {n c B : Nat} {bs : List UInt8} {A' : Option Addr} {m c' B' : Nat} {ws : List Int} (w : World) (hb : RB w B A n c bs) (h : RI w B' A' m c' ws) (hn : n ≤ 1000000) (hm : m ≤ 1000000) (hB : B ≤ w.heap.size) (hB' : B' ≤ w.heap.size) (hx : ∀ x ∈ ws, x ≤ 9223372036854775807) :
    Calls Tryz.prog 68 #[.slice A n c, .slice A' m c'] w (UnpPost 125 (Bt.unpackS bs ws) w) := by
  have hl := h.len
  have hbl := hb.len
  go_enter Tryz.func68, Tryz.ntmps68
  go_wp2_with fail
  go_loop [6, 7] (fun v u => ∃ (k : Nat) (s : Int), k ≤ m ∧ u = .int .i64 k ∧ v = .int .i64 s ∧ RTotRel ws (ws.map Bt.okW) k s) (fun _ u => m - (intOf u).toNat)
  case atStart => exact ⟨0, 0, by omega, rfl, rfl, rtot_start _ _⟩
  case round =>
    obtain ⟨k, s, hk, rfl, rfl, hrel⟩ := hrel
    have hs1 := hrel.lo
    have hs2 := hrel.hi
    have HREL := Lib.hid hrel; clear hrel
    have HL := Lib.hid hl; have HBL := Lib.hid hbl
    by_cases hlt : k < m
    · obtain ⟨b, o, rfl, hbB, q0⟩ := h.at_ hlt
      have hok := Bt.okW_getD ws k
      generalize hxx : ws.getD k 0 = x at *
      have HX := Lib.hid hxx
      have HOK := Lib.hid hok
      clear hok hxx hl hbl hx
      rcases (show x < 1 ∨ (1 ≤ x ∧ 64 < x) ∨ (1 ≤ x ∧ x ≤ 64) by omega) with h1 | ⟨h1, h2⟩ | ⟨h1, h2⟩
      · go_wp2_with fail
        go_ret2
        exact unp_bad (unpackS_bad (tot_bad (i := k) (by rw [List.length_map, HL.out]; omega) (by rw [HOK.out]; exact decide_eq_false (by omega))) (by decide)) (Below.refl _ _)
      · go_wp2_with fail
        go_ret2
        exact unp_bad (unpackS_bad (tot_bad (i := k) (by rw [List.length_map, HL.out]; omega) (by rw [HOK.out]; exact decide_eq_false (by omega))) (by decide)) (Below.refl _ _)
      · by_cases h64 : s ≤ 64
        · go_wp2_with fail
          go_round
          case rel => exact ⟨k + 1, _, by omega, by go_num, rfl, HREL.out.next h1 h2 HX.out (by rw [HOK.out]; exact Bt.okW_iff.2 ⟨h1, h2⟩) _ (.inl ⟨h64, rfl⟩)⟩
          case measure => simp [intOf] <;> omega
        · go_wp2_with fail
          go_round
          case rel => exact ⟨k + 1, _, by omega, by go_num, rfl, HREL.out.next h1 h2 HX.out (by rw [HOK.out]; exact Bt.okW_iff.2 ⟨h1, h2⟩) _ (.inr ⟨by omega, rfl⟩)⟩
          case measure => simp [intOf] <;> omega
    · obtain rfl : k = m := by omega
      clear hl hbl hx
      have HL2 := Lib.hid (show (ws.map Bt.okW).length = k by rw [List.length_map]; exact HL.out)
      by_cases h65 : 65 ≤ s
      · go_wp2_with fail
        go_ret2
        exact unp_bad (unpackS_bad (HREL.out.toBig HL.out HL2.out h65) (by decide)) (Below.refl _ _)
      · have h64 : s ≤ 64 := by omega
        clear h65
        have HP := Lib.hid (HREL.out.fine HL.out HL2.out h64)
        by_cases hs : 8 * (n : Int) < s
        · go_wp2_with fail
          go_ret2
          exact unp_bad (unpackS_short HP.out (by rw [HBL.out]; exact hs)) (Below.refl _ _)
        · have hs' : s ≤ 8 * (n : Int) := by omega
          clear hs
          have HPK := Lib.hid (unpackS_fine (b := bs) HP.out (by rw [HBL.out]; exact hs'))
          go_wp2_with fail
          go_loopw [8, 9, 10] (fun v a u wr => ∃ (j : Nat) (A1 : Option Addr) (c1 : Nat), j ≤ k ∧ u = .int .i64 j ∧ v = .slice A1 j c1 ∧ a = .int .i64 (Bt.sumK ws j) ∧ OS (FlW wr w.heap.size) wr w.heap.size 125 2 A1 j c1 (Bt.unpK bs ws j) ∧ Below w.heap.size w wr) (fun _ _ u _ => k - (intOf u).toNat)
          case atStart => exact ⟨0, _, _, by omega, rfl, rfl, rfl, OS.none_ _ _ _ _, Below.refl _ _⟩
          case round =>
            obtain ⟨j, A1, c1, hj, rfl, rfl, rfl, os, bb⟩ := hrel
            by_cases hlt : j < k
            · obtain ⟨b, o, rfl, hbB, q0⟩ := (h.below (bb.mono hB')).at_ hlt
              obtain ⟨s1, s2, s3, s4, s5⟩ := unp_step HP.out (k := j) (by rw [HL.out]; omega)
              have hnx : Bt.unpK bs ws (j + 1) = Bt.unpK bs ws j ++ [Bt.fieldS bs (Bt.sumK ws j).toNat (ws.getD j 0)] := rfl
              generalize ws.getD j 0 = x at *
              obtain ⟨P, hP⟩ : ∃ P : Nat, Bt.sumK ws j = (P : Int) := ⟨_, (Int.toNat_of_nonneg s3).symm⟩
              obtain ⟨M, rfl⟩ : ∃ M : Nat, x = (M : Int) := ⟨x.toNat, by omega⟩
              obtain ⟨nb, e1, e2, e3⟩ := bytesS_nat (M : Int) (by omega) s2
              have hz := bb.size
              have b1 := alloc_one wr (.cells #[.int .i64 (M : Int), .slice none 0 0] 125)
              have d1 := below_step bb b1 (Nat.le_refl _)
              have C1 := RBGet_ok P M _ (hb.below (d1.mono hB)) hn (by omega) (by omega) (by omega)
              have C2 := fun w => RBytes_any (M : Int) w (by omega)
              have hlow := Bt.lowF_lt bs P M
              have hlow2 : Bt.lowF bs P M < 18446744073709551616 := Nat.lt_of_lt_of_le hlow (Nat.le_trans (Nat.pow_le_pow_right (by decide) (show M ≤ 64 by omega)) (by decide))
              rw [e1] at C2
              rw [hP] at s4 s3 hnx ⊢
              rw [← s4] at s5
              unfold Bt.fieldS at hnx
              rw [e1, Int.toNat_natCast, Int.toNat_natCast, Int.toNat_natCast] at hnx
              generalize Bt.lowF bs P M = V at *
              have HN := Lib.hid hnx; have HS := Lib.hid s4
              have HQ := Lib.hid (fun (w2 : World) (hw : Below w.heap.size w w2) => show w2.cell? _ = _ from ((hw.cell (p := ⟨b, o + j, none⟩) (Nat.lt_of_lt_of_le hbB hB')).trans (bb.cell (p := ⟨b, o + j, none⟩) (Nat.lt_of_lt_of_le hbB hB')).symm).trans q0)
              have K := Blk.new wr 125 #[.int .i64 (M : Int), .slice none 0 0]
              have F := K.two
              replace C1 := Lib.hid C1; replace C2 := Lib.hid C2
              have os1 := os.below b1 (R' := FlW _ w.heap.size) fun _ _ h => h.below b1
              have hbw : b < wr.heap.size := by omega
              clear hnx s4 hP hlow e1
              go_wp2_with fail
              refine (C1.out).mono ?_
              rintro e _ ⟨rfl, rfl⟩
              obtain ⟨wo, rfl⟩ : ∃ wo : World, wo = wr := ⟨_, rfl⟩
              go_wp2_with fail
              go_loopw [12, 14] (fun v u wr => ∃ (i : Nat) (A2 : Option Addr) (c2 : Nat), i ≤ nb ∧ u = .int .i64 i ∧ v = .int .u64 ((V / 256 ^ i : Nat) : Int) ∧ Blk wr wo.heap.size 125 #[.int .i64 (M : Int), .slice A2 i c2] ∧ OB wr (wo.heap.size + 1) A2 i c2 (Oct.lb i V) ∧ Below wo.heap.size wo wr) (fun _ u _ => nb - (intOf u).toNat)
              case atStart => exact ⟨0, none, 0, by omega, rfl, by simp, K, OB.none_ _ _, b1⟩
              case round =>
                clear os1 d1 F K b1
                obtain ⟨i, A2, c2, hi, rfl, rfl, K, ob, bi⟩ := hrel
                have F := K.two
                have hlt2 := K.lt
                have q1 := HQ.out _ (below_step bb bi (Nat.le_refl _))
                have hle : V / 256 ^ i ≤ V := Nat.div_le_self _ _
                by_cases hlt3 : i < nb
                · have hv : (((V / 256 ^ i : Nat) : Int)) % 256 = ((UInt8.ofNat (V / 256 ^ i)).toNat : Int) := by rw [UInt8.toNat_ofNat']; omega
                  have hdv : V / 256 ^ i / 256 = V / 256 ^ (i + 1) := by rw [Nat.div_div_eq_div_mul, Nat.pow_succ]
                  have hlb : Oct.lb (i + 1) V = Oct.lb i V ++ [UInt8.ofNat (V / 256 ^ i)] := rfl
                  generalize V / 256 ^ i = y at *
                  have HV := Lib.hid hv; have HD := Lib.hid hdv; have HLB := Lib.hid hlb; clear hv hdv hlb
                  go_wp2_with fail
                  refine (C2.out _).mono ?_
                  rintro e _ ⟨rfl, rfl⟩
                  go_wp2_with (at_builtin; refine wpList_appb_one etb rfl (.tmp 79) (.tmp 82) rfl rfl rfl (wo.heap.size + 1) ob (UInt8.ofNat y) HV.out (by omega) hlt2 ?_; intro A3 c3 w3 h3 hb3 _ _; have K3 := K.below hb3 (Nat.lt_succ_self _); have F3 := K3.two; have hlt4 := K3.lt; clear F)
                  go_roundw
                  case rel =>
                    have := K3.set_ 1 (.slice A3 (i + 1) c3)
                    exact ⟨i + 1, A3, c3, by omega, by go_num, by rw [← HD.out]; go_num, this, by rw [HLB.out]; exact h3.far (Nat.lt_succ_self _) 1 _, (bi.trans (hb3.mono (Nat.le_succ _))).setCell (p := ⟨wo.heap.size, 1, none⟩) (Nat.le_refl _) _⟩
                  case measure => simp [intOf] <;> omega
                · obtain rfl : i = nb := by omega
                  have dx := below_step bb bi (Nat.le_refl _)
                  have osx := os.below bi (R' := FlW wr w.heap.size) fun _ _ h => h.below bi
                  have owx := (ob.ow).more (base' := w.heap.size) (by omega)
                  have hzx := dx.size
                  go_wp2_with fail
                  refine (C2.out _).mono ?_
                  rintro e _ ⟨rfl, rfl⟩
                  go_wp2_with (at_builtin; refine wpList_apps etrfl (fun w1 => FlW w1 w.heap.size) rfl (.tmp 87) (.tmp 89) rfl rfl rfl rfl w.heap.size osx ⟨(M : Int), Oct.lb i V⟩ ⟨A2, i, c2, rfl, owx⟩ rfl (field_oneCell _ _ _ _) (by omega) (by omega) dx.size (fun w1 A1 n1 c1 xs h g f cs hf => hf.beside h (by decide) g) ?_; intro A3 c3 w3 os3 b3 g3 _; have e3 := HQ.out w3 (dx.trans b3); clear q1)
                  go_roundw
                  case rel => exact ⟨j + 1, A3, c3, by omega, by go_num, rfl, by rw [← HS.out], by rw [HN.out]; exact os3, dx.trans b3⟩
                  case measure => simp [intOf] <;> omega
            · obtain rfl : j = k := by omega
              go_wp2_with fail
              go_ret2
              exact unp_fine (by rw [HPK.out, HL.out]) (Bt.unpK_length _ _ _) os bb
end Go.Proofs.YtkddillihhjghaaGreat
/-
  Walks: the reference's Scatter of layer 30.
  Conditions: none.
-/
namespace Go.Proofs.YtkddillihhjghaaGreat
set_option linter.unusedVariables false
set_option linter.unusedSimpArgs false
open Go.RowKit
set_option maxRecDepth 100000 in
set_option maxHeartbeats 8000000 in
theorem RScatter_any {F : Nat → Prop} {w : World} {g gv lc vc : Nat} {lA vA : Option Addr} {xs vs : List Value} {D : Dc.Dic} {A : Option Addr} {n c B : Nat} {ws : List Nat} {A' : Option Addr} {n' c' B' : Nat} {bs : List UInt8} (h : DRt 77 w F g gv lA lc vA vc xs vs D) (hw : RW w B A n c ws) (hwl : ∀ x ∈ ws, x < 4294967296) (hB : B ≤ w.heap.size) (hb : RB w B' A' n' c' bs) (hn' : n' ≤ 1000000) (hB' : B' ≤ w.heap.size) : Calls Tryz.prog 42 #[.pointer (some ⟨g, 0, none⟩), .slice A n c, .slice A' n' c'] w (ScatPost (Mp.scatterS D.l ws bs) w) := by
  have hl := hw.len
  have RI := RMCheck_any true h hw hwl hB
  have hgs : Mp.scatterS D.l ws bs = if Mp.checkS D.l true ws ≠ 0 then ([], 4) else if (Bt.unpackS bs (Mp.widthsS ws)).2 ≠ 0 then ([], (Bt.unpackS bs (Mp.widthsS ws)).2)
    else if Mp.allTake D.l ws (Bt.unpackS bs (Mp.widthsS ws)).1 ws.length = true then (Mp.vlsK ws (Bt.unpackS bs (Mp.widthsS ws)).1 ws.length, 0) else ([], 9) := rfl
  have hce := Mp.check_each (l := D.l) (inn := true) (ws := ws)
  generalize Mp.checkS D.l true ws = r at *
  by_cases hr : r = 0
  · subst hr
    simp only [ne_eq, not_true_eq_false, if_false] at hgs
    obtain ⟨h8', hone⟩ := hce rfl
    have h8 : n ≤ 8 := by rw [← hl]; exact h8'
    have HONE := Lib.hid (fun i hi => Mp.one_found (hone i hi).1)
    clear hce hone h8'
    replace RI := Lib.hid RI
    have HL := Lib.hid hl
    have HGS := Lib.hid hgs
    clear hl hgs
    go_enter Tryz.func42, Tryz.ntmps42
    go_wp2_with fail
    refine (RI.out).mono ?_
    rintro e w1 ⟨rfl, b1⟩
    go_wp2_with fail
    go_loopw [8, 9] (fun v i wr => ∃ (k : Nat) (A1 : Option Addr) (c1 : Nat), k ≤ n ∧ i = .int .i64 k ∧ v = .slice A1 k c1 ∧ OI wr w.heap.size A1 k c1 (Mp.widthsS (ws.take k)) ∧ Below w.heap.size w wr) (fun _ i _ => n - (intOf i).toNat)
    case atStart => exact ⟨0, _, _, by omega, rfl, rfl, OI.none_ _ _, b1⟩
    case round =>
      clear b1
      obtain ⟨k, A1, c1, hk, rfl, rfl, os, bb⟩ := hrel
      by_cases hlt : k < n
      · obtain ⟨b, o, rfl, hbB, q0⟩ := (hw.below (bb.mono hB)).at_ hlt
        have hnx := Mp.widths_take ws (k := k) (by rw [HL.out]; exact hlt)
        have SP := RMSplit_any (ws.getD k 0) (word_lt hwl k) wr
        generalize (Mp.ix (ws.getD k 0) : Int) = ixx at *
        generalize (Mp.sb (ws.getD k 0) : Int) = sbx at *
        generalize (Mp.bt (ws.getD k 0) : Int) = y at *
        generalize ws.getD k 0 = x at *
        have HN := Lib.hid hnx
        replace SP := Lib.hid SP
        clear hnx
        go_wp2_with fail
        refine (SP.out).mono ?_
        rintro e _ ⟨rfl, rfl⟩
        go_wp2_with (at_builtin; refine wpList_apps etint (fun _ (x : Int) cs => cs = [Value.int .i64 x]) rfl (.tmp 39) (.tmp 41) rfl rfl rfl rfl w.heap.size os y rfl rfl (fun u hu => by simp only [List.mem_cons, List.not_mem_nil, or_false] at hu; rw [hu]; rfl) (by omega) (by omega) bb.size (fun w1 A1 n1 c1 xs h g f cs hf => hf) ?_; intro A3 c3 w3 os3 b3 g3 _)
        go_roundw
        case rel => exact ⟨k + 1, A3, c3, by omega, by go_num, rfl, by rw [HN.out]; exact os3, bb.trans b3⟩
        case measure => simp [intOf] <;> omega
      · obtain rfl : k = n := by omega
        have hall : ws.take k = ws := List.take_of_length_le (by rw [HL.out]; omega)
        rw [hall] at os
        have UN := RUnpack_ok wr (hb.below (bb.mono hB')) os.ri hn' (by omega) (Nat.le_trans hB' bb.size) (Nat.le_refl _) (widths_ok ws)
        have hun := unpack_len bs (Mp.widthsS ws)
        have hun2 := unpack_nil bs (Mp.widthsS ws)
        rw [Mp.widths_len, HL.out] at hun
        have hgs := HGS.out
        unfold UnpPost at UN
        generalize Bt.unpackS bs (Mp.widthsS ws) = up at *
        obtain ⟨fs, ue⟩ := up
        dsimp only at UN hun hun2 hgs
        replace UN := Lib.hid UN
        clear os hall HGS
        by_cases hue : ue = 0
        · subst hue
          obtain rfl : fs.length = k := hun rfl
          simp only [ne_eq, not_true_eq_false, if_false] at hgs
          rw [HL.out] at hgs
          have HGS := Lib.hid hgs
          clear hgs hun hun2
          go_wp2_with fail
          refine (UN.out).mono ?_
          rintro e wu ⟨Af, cf, rfl, of_, bu⟩
          have du := below_step bb bu (Nat.le_refl _)
          replace of_ := of_.more bb.size (R' := FlW wu w.heap.size) fun _ _ h => h.more bb.size
          clear UN bu bb
          go_wp2_with fail
          go_loopw [15, 16] (fun v i wr => ∃ (k : Nat) (A1 : Option Addr) (c1 : Nat), k ≤ fs.length ∧ i = .int .i64 k ∧ v = .slice A1 k c1 ∧ OS (VlW wr w.heap.size) wr wu.heap.size 64 3 A1 k c1 (Mp.vlsK ws fs k) ∧ Below wu.heap.size wu wr ∧ Mp.allTake D.l ws fs k = true) (fun _ i _ => fs.length - (intOf i).toNat)
          case atStart => exact ⟨0, _, _, by omega, rfl, rfl, OS.none_ _ _ _ _, Below.refl _ _, rfl⟩
          case round =>
            obtain ⟨k, A1, c1, hk, rfl, rfl, os, bb, hat⟩ := hrel
            have HAT := Lib.hid hat
            clear hat
            have db := below_step du bb (Nat.le_refl _)
            by_cases hlt : k < fs.length
            · obtain ⟨b, o, rfl, hbB, q0⟩ := (hw.below (db.mono hB)).at_ hlt
              obtain ⟨kk, hf1, hf2, hf3, hf4, hf5⟩ := HONE.out k (by rw [HL.out]; exact hlt)
              obtain ⟨hkk, hp2, hp3⟩ := (Dc.find_some hf1).2
              have FD := rFind_any (Mp.ix (ws.getD k 0)) (Mp.sb (ws.getD k 0)) ((h.below db).below (below_drew wr))
              unfold Dc.rfind at FD
              rw [hf1] at FD
              dsimp only at FD
              have SP := RMSplit_any (ws.getD k 0) (word_lt hwl k) wr
              have htk : Mp.takes D.l ws fs k = decide (Ent.valS (Mp.entOf D.l (ws.getD k 0)) (fs.getD k Bt.Fld.zero).data = 0) := rfl
              rw [hf2] at htk
              have hvk : Mp.vlsK ws fs (k + 1) = Mp.vlsK ws fs k ++ [⟨(Mp.ix (ws.getD k 0) : Int), (Mp.sb (ws.getD k 0) : Int), (fs.getD k Bt.Fld.zero).data⟩] := rfl
              have ofr := of_.below bb (R' := FlW wr w.heap.size) fun _ _ h => h.below bb
              have hfg : fs[k]? = some (fs.getD k Bt.Fld.zero) := by simp [List.getD, List.getElem?_eq_getElem hlt]
              obtain ⟨bf, offs, cs, hAf, hbf, ⟨A2, n2, c2, rfl, ow2⟩, hcf⟩ := RS.at_ ofr.rs (by decide) hfg
              have f1 := hcf 1 _ (by decide) rfl
              subst hAf
              have hcapF : fs.length ≤ cf := by obtain ⟨zs, z1, _⟩ := of_; exact z1.rv.le
              have hcapF2 : cf ≤ 9223372036854775807 := by obtain ⟨zs, z1, _⟩ := of_; exact z1.rv.cap
              obtain ⟨b', oo, A0, n0, c0, hA, hbB', hr', hc⟩ := (h.below db).entry hkk
              have hB2 := h.below db
              obtain ⟨t0, _⟩ := hB2.two
              have hlc := hB2.lcap
              subst hA
              have e0 := cell_regrown (hc 0 _ rfl)
              have e1 := cell_regrown (hc 1 _ rfl)
              have e2 := cell_regrown (hc 2 _ rfl)
              have e3 := cell_regrown (hc 3 _ rfl)
              have e4 := cell_regrown (hc 4 _ rfl)
              have e5 := cell_regrown (hc 5 _ rfl)
              have e6 := cell_regrown (hc 6 _ rfl)
              have e7 := cell_regrown (hc 7 _ rfl)
              have e8 := cell_regrown (hc 8 _ rfl)
              have e9 := cell_regrown (hc 9 _ rfl)
              have e10 := cell_regrown (hc 10 _ rfl)
              have T0 := cell_regrown t0
              simp only [Nat.add_zero] at e0
              clear hc hr' hB2 hf1 hf2 hf3 hf4 hf5 hp2 hp3 hfg hcf ofr
              generalize (fs.getD k Bt.Fld.zero).data = dat at *
              generalize D.l.getD kk Dc.en0 = en at *
              obtain ⟨ix, sb, nm, ty, ac, mp, st, mx, lo, hi, df⟩ := en
              dsimp only at e0 e1 e2 e3 e4 e5 e6 e7 e8 e9 e10
              generalize (Mp.ix (ws.getD k 0) : Int) = ixx at *
              generalize (Mp.sb (ws.getD k 0) : Int) = sbx at *
              generalize (Mp.bt (ws.getD k 0) : Int) = btx at *
              generalize ws.getD k 0 = x at *
              have HVK := Lib.hid hvk; have HTK := Lib.hid htk
              clear hvk htk
              have EV := fun w2 (hb : Below wr.heap.size wr w2) => RValue_any ⟨ix, sb, nm, ty, ac, mp, st, mx, lo, hi, df⟩ A0 n0 c0 w2 (ow2.rb.below hb) hb.size
              unfold enV at EV
              dsimp only at EV
              generalize hv : Ent.valS ⟨ix, sb, nm, ty, ac, mp, st, mx, lo, hi, df⟩ dat = vv at *
              clear hv
              replace EV := Lib.hid EV; replace FD := Lib.hid FD; replace SP := Lib.hid SP
              have f1' := cell_regrown f1
              have i0 : (0 : Int) ≤ (k : Int) := by omega
              have i1 : (k : Int) < (fs.length : Int) := by omega
              have i2 : (0 : Int) ≤ (kk : Int) := by omega
              have i3 : (kk : Int) < (D.l.length : Int) := by omega
              clear t0
              go_wp2_with fail
              refine (SP.out).mono ?_
              rintro e _ ⟨rfl, rfl⟩
              go_wp2_with fail
              refine region_later (by kernel_rfl) ?_
              refine phase_later (by kernel_rfl) 5 (below_drew _) [0, 4, 5, 6, 10, 11, 1, 12, 2, 13, 3, 14] rfl (by kernel_rfl) ?_
              simp only [picks, nth]
              repeat (go_big_quiet_step (fail))
              refine wpQuiet_nil ?_
              refine phase_op 7 4 rfl (by kernel_rfl) (by decide) ?_
              simp only [nth]
              go_wp2_with fail
              refine (FD.out).mono ?_
              rintro e _ ⟨rfl, rfl⟩
              go_wp2_with fail
              refine behind_since (below_drew _) ?_
              refine phase_later (by kernel_rfl) 2 (below_drew _) [8, 9] rfl (by kernel_rfl) ?_
              simp only [picks, nth]
              repeat (go_big_quiet_step (fail))
              refine wpQuiet_nil ?_
              refine phase_op 15 1 rfl (by kernel_rfl) (by decide) ?_
              simp only [nth]
              go_wp2_with fail
              refine (EV.out _ (below_drew _)).mono ?_
              rintro e w3 ⟨rfl, b3⟩
              have d3 : Below wr.heap.size wr w3 := (below_drew wr).trans b3
              go_wp2_with fail
              refine behind_since d3 ?_
              clear e0 e1 e2 e3 e4 e5 e6 e7 e8 e9 e10 T0 f1' EV
              by_cases hv0 : vv = 0
              · subst hv0
                have htk : Mp.takes D.l ws fs k = true := by rw [HTK.out]; rfl
                have HAT2 := Lib.hid (show Mp.allTake D.l ws fs (k + 1) = true by rw [Mp.allTake, HAT.out, htk]; rfl)
                clear htk HTK
                refine phase_later (by kernel_rfl) 0 d3 [16] rfl (by kernel_rfl) ?_
                simp only [picks, nth]
                repeat (go_big_quiet_step (fail))
                refine wpQuiet_nil ?_
                refine phase_end (by kernel_rfl) ?_
                have os3 := os.below d3 (R' := VlW w3 w.heap.size) fun _ _ h => h.below d3
                have ow3 := ow2.below d3
                have f3 := (d3.cell (p := ⟨bf, offs + k * 2 + 1, none⟩) hbf).trans f1
                have bb3 := below_step bb d3 (Nat.le_refl _)
                go_wp2_with (at_builtin; refine wpList_apps etvl (fun w1 => VlW w1 w.heap.size) rfl (.tmp 84) (.tmp 93) rfl rfl rfl rfl wu.heap.size os3 ⟨ixx, sbx, dat⟩ ⟨A2, n2, c2, rfl, ow3⟩ rfl (value_oneCell _ _ _ _ _) (by omega) (by omega) bb3.size (fun w1 A1 n1 c1 xs h g f cs hf => hf.beside h (by decide) g) ?_; intro A5 c5 w5 o5 b5 g5 _)
                have bb5 := bb3.trans b5
                go_roundw
                case rel => exact ⟨k + 1, A5, c5, by omega, by go_num, rfl, by rw [HVK.out]; exact o5, bb5, HAT2.out⟩
                case measure => simp [intOf] <;> omega
              · have htk : Mp.takes D.l ws fs k = false := by rw [HTK.out]; exact decide_eq_false hv0
                have hbad : Mp.scatterS D.l ws bs = ([], 9) := by
                  rw [HGS.out, Mp.allTake_no hlt htk]
                  rfl
                have hv2 : (vv == 0) = false := by simpa using hv0
                have hv3 : (vv != 0) = true := by simpa using hv0
                have HB9 := Lib.hid hbad
                clear hbad htk HTK hv0
                refine phase_later (by kernel_rfl) 0 d3 [16] rfl (by kernel_rfl) ?_
                simp only [picks, nth]
                repeat (go_big_quiet_step (fail))
                refine wpQuiet_nil ?_
                refine phase_end (by kernel_rfl) ?_
                go_wp2_with fail
                go_ret2
                exact scat_bad HB9.out (below_step db d3 (Nat.le_refl _))
            · obtain rfl : k = fs.length := by omega
              have hat := HAT.out
              go_wp2_with fail
              go_ret2
              refine scat_fine (by rw [HGS.out]; exact if_pos hat) (Mp.vlsK_length _ _ _) (os.more du.size fun _ _ h => h) db
        · obtain rfl : fs = [] := hun2 hue
          simp only [ne_eq, hue, not_false_eq_true, if_true] at hgs
          have hue2 : (ue == 0) = false := by simpa using hue
          have hue3 : (ue != 0) = true := by simpa using hue
          have HGS := Lib.hid hgs
          clear hgs hun hun2 hue
          go_wp2_with fail
          refine (UN.out).mono ?_
          rintro e wu ⟨Af, cf, rfl, of_, bu⟩
          go_wp2_with fail
          go_ret2
          exact scat_bad HGS.out (below_step bb bu (Nat.le_refl _))
  · simp only [ne_eq, hr, not_false_eq_true, if_true] at hgs
    rw [hgs]
    have hr3 : (r != 0) = true := by simpa using hr
    have hr2 : (r == 0) = false := by simpa using hr
    clear hgs hce hr hl
    replace RI := Lib.hid RI
    go_enter Tryz.func42, Tryz.ntmps42
    go_wp2_with fail
    refine (RI.out).mono ?_
    rintro e w1 ⟨rfl, b1⟩
    go_wp2_with fail
    go_ret2
    exact scat_bad rfl b1
end Go.Proofs.YtkddillihhjghaaGreat
