/-
  Walks: the reference's Unpack.
  Conditions: none.
-/
import Derived.Test.YtecgahhdbhdplaaBitUnp
namespace Go.Proofs.Ytecgahhdbhdplaa
set_option linter.unusedVariables false
set_option linter.unusedSimpArgs false
open Go.RowKit
set_option maxRecDepth 100000 in
set_option maxHeartbeats 4000000 in
theorem RUnpack_ok {A : Option Addr} {n c B : Nat} {bs : List UInt8} {A' : Option Addr} {m c' B' : Nat} {ws : List Int} (w : World) (hb : RB w B A n c bs) (h : RI w B' A' m c' ws) (hn : n ≤ 1000000) (hm : m ≤ 1000000) (hB : B ≤ w.heap.size) (hB' : B' ≤ w.heap.size) (hx : ∀ x ∈ ws, x ≤ 9223372036854775807) :
    Calls Try.prog 22 #[.slice A n c, .slice A' m c'] w (UnpPost 53 (Bt.unpackS bs ws) w) := by
  have hl := h.len
  have hbl := hb.len
  go_enter Try.func22, Try.ntmps22
  go_wp2_with fail
  go_loop [6, 7] (fun v u => ∃ (k : Nat) (s : Int), k ≤ m ∧ u = .int .i64 k ∧ v = .int .i64 s ∧ RTotRel ws (ws.map Bt.okW) k s) (fun _ u => m - (intOf u).toNat)
  case atStart => exact ⟨0, 0, by omega, rfl, rfl, rtot_start _ _⟩
  case round =>
    obtain ⟨k, s, hk, rfl, rfl, hrel⟩ := hrel
    have hs1 := hrel.lo
    have hs2 := hrel.hi
    have HREL := Lib.hid hrel; clear hrel
    have HL := Lib.hid hl; have HBL := Lib.hid hbl
    by_cases hlt : k < m
    · obtain ⟨b, o, rfl, hbB, q0⟩ := h.at_ hlt
      have hok := Bt.okW_getD ws k
      generalize hxx : ws.getD k 0 = x at *
      have HX := Lib.hid hxx
      have HOK := Lib.hid hok
      clear hok hxx hl hbl hx
      rcases (show x < 1 ∨ (1 ≤ x ∧ 64 < x) ∨ (1 ≤ x ∧ x ≤ 64) by omega) with h1 | ⟨h1, h2⟩ | ⟨h1, h2⟩
      · go_wp2_with fail
        go_ret2
        exact unp_bad (unpackS_bad (tot_bad (i := k) (by rw [List.length_map, HL.out]; omega) (by rw [HOK.out]; exact decide_eq_false (by omega))) (by decide)) (Below.refl _ _)
      · go_wp2_with fail
        go_ret2
        exact unp_bad (unpackS_bad (tot_bad (i := k) (by rw [List.length_map, HL.out]; omega) (by rw [HOK.out]; exact decide_eq_false (by omega))) (by decide)) (Below.refl _ _)
      · by_cases h64 : s ≤ 64
        · go_wp2_with fail
          go_round
          case rel => exact ⟨k + 1, _, by omega, by go_num, rfl, HREL.out.next h1 h2 HX.out (by rw [HOK.out]; exact Bt.okW_iff.2 ⟨h1, h2⟩) _ (.inl ⟨h64, rfl⟩)⟩
          case measure => simp [intOf] <;> omega
        · go_wp2_with fail
          go_round
          case rel => exact ⟨k + 1, _, by omega, by go_num, rfl, HREL.out.next h1 h2 HX.out (by rw [HOK.out]; exact Bt.okW_iff.2 ⟨h1, h2⟩) _ (.inr ⟨by omega, rfl⟩)⟩
          case measure => simp [intOf] <;> omega
    · obtain rfl : k = m := by omega
      clear hl hbl hx
      have HL2 := Lib.hid (show (ws.map Bt.okW).length = k by rw [List.length_map]; exact HL.out)
      by_cases h65 : 65 ≤ s
      · go_wp2_with fail
        go_ret2
        exact unp_bad (unpackS_bad (HREL.out.toBig HL.out HL2.out h65) (by decide)) (Below.refl _ _)
      · have h64 : s ≤ 64 := by omega
        clear h65
        have HP := Lib.hid (HREL.out.fine HL.out HL2.out h64)
        by_cases hs : 8 * (n : Int) < s
        · go_wp2_with fail
          go_ret2
          exact unp_bad (unpackS_short HP.out (by rw [HBL.out]; exact hs)) (Below.refl _ _)
        · have hs' : s ≤ 8 * (n : Int) := by omega
          clear hs
          have HPK := Lib.hid (unpackS_fine (b := bs) HP.out (by rw [HBL.out]; exact hs'))
          go_wp2_with fail
          go_loopw [8, 9, 10] (fun v a u wr => ∃ (j : Nat) (A1 : Option Addr) (c1 : Nat), j ≤ k ∧ u = .int .i64 j ∧ v = .slice A1 j c1 ∧ a = .int .i64 (Bt.sumK ws j) ∧ OS (FlW wr w.heap.size) wr w.heap.size 53 2 A1 j c1 (Bt.unpK bs ws j) ∧ Below w.heap.size w wr) (fun _ _ u _ => k - (intOf u).toNat)
          case atStart => exact ⟨0, _, _, by omega, rfl, rfl, rfl, OS.none_ _ _ _ _, Below.refl _ _⟩
          case round =>
            obtain ⟨j, A1, c1, hj, rfl, rfl, rfl, os, bb⟩ := hrel
            by_cases hlt : j < k
            · obtain ⟨b, o, rfl, hbB, q0⟩ := (h.below (bb.mono hB')).at_ hlt
              obtain ⟨s1, s2, s3, s4, s5⟩ := unp_step HP.out (k := j) (by rw [HL.out]; omega)
              have hnx : Bt.unpK bs ws (j + 1) = Bt.unpK bs ws j ++ [Bt.fieldS bs (Bt.sumK ws j).toNat (ws.getD j 0)] := rfl
              generalize ws.getD j 0 = x at *
              obtain ⟨P, hP⟩ : ∃ P : Nat, Bt.sumK ws j = (P : Int) := ⟨_, (Int.toNat_of_nonneg s3).symm⟩
              obtain ⟨M, rfl⟩ : ∃ M : Nat, x = (M : Int) := ⟨x.toNat, by omega⟩
              obtain ⟨nb, e1, e2, e3⟩ := bytesS_nat (M : Int) (by omega) s2
              have hz := bb.size
              have b1 := alloc_one wr (.cells #[.int .i64 (M : Int), .slice none 0 0] 53)
              have d1 := below_step bb b1 (Nat.le_refl _)
              have C1 := RGet_ok P M _ (hb.below (d1.mono hB)) hn (by omega) (by omega) (by omega)
              have C2 := fun w => RBytes_any (M : Int) w (by omega)
              have hlow := Bt.lowF_lt bs P M
              have hlow2 : Bt.lowF bs P M < 18446744073709551616 := Nat.lt_of_lt_of_le hlow (Nat.le_trans (Nat.pow_le_pow_right (by decide) (show M ≤ 64 by omega)) (by decide))
              rw [e1] at C2
              rw [hP] at s4 s3 hnx ⊢
              rw [← s4] at s5
              unfold Bt.fieldS at hnx
              rw [e1, Int.toNat_natCast, Int.toNat_natCast, Int.toNat_natCast] at hnx
              generalize Bt.lowF bs P M = V at *
              have HN := Lib.hid hnx; have HS := Lib.hid s4
              have HQ := Lib.hid (fun (w2 : World) (hw : Below w.heap.size w w2) => show w2.cell? _ = _ from ((hw.cell (p := ⟨b, o + j, none⟩) (Nat.lt_of_lt_of_le hbB hB')).trans (bb.cell (p := ⟨b, o + j, none⟩) (Nat.lt_of_lt_of_le hbB hB')).symm).trans q0)
              have K := Blk.new wr 53 #[.int .i64 (M : Int), .slice none 0 0]
              have F := K.two
              replace C1 := Lib.hid C1; replace C2 := Lib.hid C2
              have os1 := os.below b1 (R' := FlW _ w.heap.size) fun _ _ h => h.below b1
              have hbw : b < wr.heap.size := by omega
              clear hnx s4 hP hlow e1
              go_wp2_with fail
              refine (C1.out).mono ?_
              rintro e _ ⟨rfl, rfl⟩
              obtain ⟨wo, rfl⟩ : ∃ wo : World, wo = wr := ⟨_, rfl⟩
              go_wp2_with fail
              go_loopw [12, 14] (fun v u wr => ∃ (i : Nat) (A2 : Option Addr) (c2 : Nat), i ≤ nb ∧ u = .int .i64 i ∧ v = .int .u64 ((V / 256 ^ i : Nat) : Int) ∧ Blk wr wo.heap.size 53 #[.int .i64 (M : Int), .slice A2 i c2] ∧ OB wr (wo.heap.size + 1) A2 i c2 (Oct.lb i V) ∧ Below wo.heap.size wo wr) (fun _ u _ => nb - (intOf u).toNat)
              case atStart => exact ⟨0, none, 0, by omega, rfl, by simp, K, OB.none_ _ _, b1⟩
              case round =>
                clear os1 d1 F K b1
                obtain ⟨i, A2, c2, hi, rfl, rfl, K, ob, bi⟩ := hrel
                have F := K.two
                have hlt2 := K.lt
                have q1 := HQ.out _ (below_step bb bi (Nat.le_refl _))
                have hle : V / 256 ^ i ≤ V := Nat.div_le_self _ _
                by_cases hlt3 : i < nb
                · have hv : (((V / 256 ^ i : Nat) : Int)) % 256 = ((UInt8.ofNat (V / 256 ^ i)).toNat : Int) := by rw [UInt8.toNat_ofNat']; omega
                  have hdv : V / 256 ^ i / 256 = V / 256 ^ (i + 1) := by rw [Nat.div_div_eq_div_mul, Nat.pow_succ]
                  have hlb : Oct.lb (i + 1) V = Oct.lb i V ++ [UInt8.ofNat (V / 256 ^ i)] := rfl
                  generalize V / 256 ^ i = y at *
                  have HV := Lib.hid hv; have HD := Lib.hid hdv; have HLB := Lib.hid hlb; clear hv hdv hlb
                  go_wp2_with fail
                  refine (C2.out _).mono ?_
                  rintro e _ ⟨rfl, rfl⟩
                  go_wp2_with (at_builtin; refine wpList_appb_one etb rfl (.tmp 79) (.tmp 82) rfl rfl rfl (wo.heap.size + 1) ob (UInt8.ofNat y) HV.out (by omega) hlt2 ?_; intro A3 c3 w3 h3 hb3 _ _; have K3 := K.below hb3 (Nat.lt_succ_self _); have F3 := K3.two; have hlt4 := K3.lt; clear F)
                  go_roundw
                  case rel =>
                    have := K3.set_ 1 (.slice A3 (i + 1) c3)
                    exact ⟨i + 1, A3, c3, by omega, by go_num, by rw [← HD.out]; go_num, this, by rw [HLB.out]; exact h3.far (Nat.lt_succ_self _) 1 _, (bi.trans (hb3.mono (Nat.le_succ _))).setCell (p := ⟨wo.heap.size, 1, none⟩) (Nat.le_refl _) _⟩
                  case measure => simp [intOf] <;> omega
                · obtain rfl : i = nb := by omega
                  have dx := below_step bb bi (Nat.le_refl _)
                  have osx := os.below bi (R' := FlW wr w.heap.size) fun _ _ h => h.below bi
                  have owx := (ob.ow).more (base' := w.heap.size) (by omega)
                  have hzx := dx.size
                  go_wp2_with fail
                  refine (C2.out _).mono ?_
                  rintro e _ ⟨rfl, rfl⟩
                  go_wp2_with (at_builtin; refine wpList_apps etrfl (fun w1 => FlW w1 w.heap.size) rfl (.tmp 87) (.tmp 89) rfl rfl rfl rfl w.heap.size osx ⟨(M : Int), Oct.lb i V⟩ ⟨A2, i, c2, rfl, owx⟩ rfl (field_oneCell _ _ _ _) (by omega) (by omega) dx.size (fun w1 A1 n1 c1 xs h g f cs hf => hf.beside h (by decide) g) ?_; intro A3 c3 w3 os3 b3 g3 _; have e3 := HQ.out w3 (dx.trans b3); clear q1)
                  go_roundw
                  case rel => exact ⟨j + 1, A3, c3, by omega, by go_num, rfl, by rw [← HS.out], by rw [HN.out]; exact os3, dx.trans b3⟩
                  case measure => simp [intOf] <;> omega
            · obtain rfl : j = k := by omega
              go_wp2_with fail
              go_ret2
              exact unp_fine (by rw [HPK.out, HL.out]) (Bt.unpK_length _ _ _) os bb
end Go.Proofs.Ytecgahhdbhdplaa
