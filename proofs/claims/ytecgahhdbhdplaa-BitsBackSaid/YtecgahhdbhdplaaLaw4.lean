/-
  Walk: BitsBack.
  Conditions: none.
-/
import Derived.Test.YtecgahhdbhdplaaBitLaws
import Derived.Test.YtecgahhdbhdplaaBitKnown
import Derived.Test.YtecgahhdbhdplaaFrame
namespace Go.Proofs.Ytecgahhdbhdplaa
set_option linter.unusedVariables false
set_option linter.unusedSimpArgs false
open Go.ChangeShapes Go.WideShapes Go.ChangeAt Go.RowKit
theorem packS_err {fs : List Bt.Fld} (h : (Bt.packS fs).2 ≠ 0) : (Bt.packS fs).1 = [] := by
  unfold Bt.packS at *
  split at h
  · exact absurd rfl h
  · rename_i h0
    rw [if_neg h0]
theorem packS_ok {fs : List Bt.Fld} {b : List UInt8} (h : Bt.packS fs = (b, 0)) : ∀ k, k < fs.length → 1 ≤ (fs.getD k Bt.Fld.zero).bits ∧ (fs.getD k Bt.Fld.zero).bits ≤ 64 ∧ 0 ≤ Bt.sumK (Bt.bitsOf fs) k ∧ Bt.sumK (Bt.bitsOf fs) k ≤ 64 ∧ Bt.sumK (Bt.bitsOf fs) k + (fs.getD k Bt.Fld.zero).bits = Bt.sumK (Bt.bitsOf fs) (k + 1) := by
  intro k hk
  unfold Bt.packS at h
  split at h
  · rename_i h0
    obtain ⟨F, e, e64, ht, e0⟩ := Bt.tot_fit (z := (Bt.totS (Bt.bitsOf fs) (fs.map Bt.okF)).1) (by rw [← h0])
    have f1 := Bt.okF_fits (F.ok k hk)
    have hl : (Bt.bitsOf fs).length = fs.length := by simp [Bt.bitsOf]
    have h1 := Bt.sumK_le F.ws k (fs.length - k) (by omega)
    rw [show k + (fs.length - k) = fs.length by omega] at h1
    obtain ⟨a1, a2, _⟩ := F.at_ hk
    exact ⟨f1.1, f1.2.1, a1, by omega, a2⟩
  · rename_i h0
    simp only [Prod.mk.injEq] at h
    exact absurd h.2 h0
theorem int_oneCell (x : Int) : ∀ u ∈ ([.int .i64 x] : List Value), u.oneCell' = true := by
  intro u hu
  simp only [List.mem_cons, List.not_mem_nil, or_false] at hu
  subst hu
  rfl
set_option maxRecDepth 100000 in
set_option maxHeartbeats 8000000 in
theorem BitsBack_walk {A : Option Addr} {n c : Nat} {fs : List Bt.Fld} {A' : Option Addr} {n' c' : Nat} {ts : List UInt8} (W : World)
    (h : RFl W W.heap.size W.heap.size A n c fs) (hx : ∀ f ∈ fs, (Lit.int .i64 f.bits).wf = true) (hb : RB W W.heap.size A' n' c' ts) :
    Calls Try.prog 5 #[.slice A n c, .slice A' n' c'] W fun e w' => e = .returned (.bool true) ∧ Below W.heap.size W w' := by
  have hm : ∀ f ∈ fs, f.bits ≤ 9223372036854775807 := fun f hf => (bounds_i64 (hx f hf)).2
  have HM := Lib.hid hm
  clear hx hm
  have hn' := hb.lt
  have HLF := Lib.hid h.len
  go_enter Try.func5, Try.ntmps5
  go_wp2_with fail
  refine (light29_any _ h).mono ?_
  rintro e w0 ⟨b, rfl, rfl, hl⟩
  by_cases hno : b = true ∧ n' ≤ 1000
  · obtain ⟨rfl, h5⟩ := hno
    obtain ⟨hn, hsm⟩ := hl rfl
    have HSM := Lib.hid hsm
    clear hl hsm
    have Gv := Lib.hid (given_any W h (by omega) (Nat.le_refl _) (Nat.le_refl _))
    go_wp2_with fail
    refine (Gv.out).mono ?_
    rintro e w1 ⟨A1, c1, rfl, g1, b1⟩
    have P1 := Pack_any w1 g1 (by omega) (Nat.le_refl _) b1.size (fun f hf => by have := HSM.out f hf; omega) HM.out
    have herr := packS_err (fs := fs)
    generalize hps : Bt.packS fs = ps at *
    obtain ⟨pv, pe⟩ := ps
    dsimp only at herr
    have HPS := Lib.hid hps
    replace P1 := Lib.hid P1
    clear Gv hps
    by_cases hpe : pe = 0
    · subst hpe
      clear herr
      have hub := fun t => Bt.unpack_pack HPS.out t
      have hok := packS_ok HPS.out
      obtain ⟨_, u1, u2, u3⟩ := hub []
      have HUB := Lib.hid hub; have HOK := Lib.hid hok; have HU1 := Lib.hid u1
      have hpl : pv.length ≤ 8 := by
        have : Bt.bytesS (Bt.sumK (Bt.bitsOf fs) fs.length) ≤ 8 := by unfold Bt.bytesS; split <;> omega
        omega
      clear hub hok u1 g1
      go_wp2_with fail
      refine (P1.out).mono ?_
      rintro e w2 ⟨A2, c2, rfl, o2, b2⟩
      dsimp only at o2
      have d2 := below_step b1 b2 (Nat.le_refl _)
      clear P1
      go_wp2_with fail
      go_loopw [7, 8, 9] (fun v s i wr => ∃ (k : Nat) (A3 : Option Addr) (c3 : Nat), k ≤ n ∧ i = .int .i64 k ∧ v = .slice A3 k c3 ∧ s = .int .i64 (Bt.sumK (Bt.bitsOf fs) k) ∧ OV wr w2.heap.size 3 1 A3 k c3 (((Bt.bitsOf fs).take k).map (Value.int .i64)) ∧ Below w2.heap.size w2 wr) (fun _ _ i _ => n - (intOf i).toNat)
      case atStart => exact ⟨0, none, 0, by omega, rfl, rfl, rfl, OV.none_ _ _ _ _, Below.refl _ _⟩
      case round =>
        obtain ⟨k, A3, c3, hk, rfl, rfl, rfl, ov, bb⟩ := hrel
        have hz := bb.size
        have dd := below_step d2 bb (Nat.le_refl _)
        by_cases hlt : k < n
        · obtain ⟨b, o, A4, n4, c4, rfl, hbB, q0, q1, hr⟩ := (h.below dd (Nat.le_refl _)).at_ hlt
          obtain ⟨f1, f2, f3, f4, f5⟩ := HOK.out k (by have := HLF.out; omega)
          have hnx : (Bt.bitsOf fs).take (k + 1) = (Bt.bitsOf fs).take k ++ [(fs.getD k Bt.Fld.zero).bits] := by
            have : k < (Bt.bitsOf fs).length := by have := HLF.out; simp [Bt.bitsOf]; omega
            rw [List.take_succ_eq_append_getElem this, ← Bt.bitsOf_getD]
            simp [List.getD, this]
          generalize fs.getD k Bt.Fld.zero = f at *
          obtain ⟨m, l⟩ := f
          dsimp only at *
          have HN := Lib.hid hnx; have HF5 := Lib.hid f5
          have HQ := Lib.hid (fun (w3 : World) (hw : Below W.heap.size W w3) => show w3.cell? _ = _ from ((hw.cell (p := ⟨b, o + k * 2, none⟩) hbB).trans (dd.cell (p := ⟨b, o + k * 2, none⟩) hbB).symm).trans q0)
          have bA := alloc_one wr (.cells #[.int .i64 m] 3)
          clear hnx f5 q1 hr
          go_wp2_with (at_builtin; refine wpList_app etint rfl (.tmp 41) (.tmp 47) rfl rfl rfl w2.heap.size (ov.alloc _) (RV.new wr 3 (cs := [.int .i64 m]) rfl) (int_oneCell _) (by omega) (by omega) (by simp; omega) ?_; intro A5 c5 w5 ov5 gr5 _; have b5 : Below w2.heap.size wr w5 := (((Below.refl _ _).alloc hz _).grown gr5 (by simp; omega) (fun k hk => (OV.lt ov k hk).1)); have e5 := HQ.out w5 (dd.trans (b5.mono d2.size)); clear q0)
          go_roundw
          case rel =>
            exact ⟨k + 1, A5, c5, by omega, by go_num, rfl, by rw [← HF5.out], by rw [HN.out, List.map_append]; exact ov5, bb.trans b5⟩
          case measure => simp [intOf] <;> omega
        · obtain rfl : k = n := by omega
          have htk : (Bt.bitsOf fs).take k = Bt.bitsOf fs := List.take_of_length_le (by have := HLF.out; simp [Bt.bitsOf]; omega)
          rw [htk] at ov
          have o2r := o2.below bb
          have J := Lib.hid (Join_any wr o2r.rb (hb.below dd) (by omega) (Nat.le_refl _) dd.size)
          have KF : Bt.sumK (Bt.bitsOf fs) k = Bt.sumK (Bt.bitsOf fs) fs.length := by rw [HLF.out]
          rw [← KF] at u2 u3
          have HKF := Lib.hid KF
          have HTK := Lib.hid htk
          clear htk KF
          generalize hs : Bt.sumK (Bt.bitsOf fs) k = S at *
          have HS := Lib.hid hs; clear hs
          go_wp2_with fail
          refine (J.out).mono ?_
          rintro e w5 ⟨A5, c5, rfl, o5, b5⟩
          have U := Unpack_any w5 o5.rb (show RI w5 wr.heap.size A3 k c3 (Bt.bitsOf fs) from (OV.rv ov).below b5) (by omega) (by omega) (Nat.le_refl _) b5.size (fun x hx => by
            obtain ⟨f, hf, rfl⟩ := List.mem_map.1 hx
            exact HM.out f hf)
          rw [(HUB.out ts).1] at U
          replace U := Lib.hid U
          have d5 := below_step dd b5 (Nat.le_refl _)
          go_wp2_with fail
          refine (U.out).mono ?_
          rintro e w6 ⟨A6, c6, rfl, os6, b6⟩
          dsimp only at os6
          have d6 := below_step d5 b6 (Nat.le_refl _)
          have p6 : RFl w6 w6.heap.size w6.heap.size A6 fs.length c6 fs := os6.rs.imp fun _ _ hf => hf.flc
          have TK := Lib.hid (taken_any w6 p6 (by have := HLF.out; omega) (Nat.le_refl _) (Nat.le_refl _))
          have CB := fun w => Bytes_any S w (by omega)
          have hpb : Bt.bytesS S = (pv.length : Int) := by rw [HU1.out, ← HKF.out]
          rw [hpb] at CB
          replace CB := Lib.hid CB
          clear os6 p6 U J hpb
          go_wp2_with fail
          refine (TK.out).mono ?_
          rintro e w7 ⟨A7, c7, rfl, t7, b7⟩
          have d7 := below_step d6 b7 (Nat.le_refl _)
          go_wp2_with fail
          refine (Same_eq w7 t7 (h.below d7 (Nat.le_refl _))).mono ?_
          rintro e w8 ⟨rfl, kk, rfl⟩
          clear t7
          go_wp2_with fail
          refine (CB.out _).mono ?_
          rintro e _ ⟨rfl, rfl⟩
          have q1 : ((pv.length : Int) == (pv.length : Int)) = true := by simp
          go_wp2_with fail
          refine (known29_any _).mono ?_
          rintro e w9 ⟨rfl, b9⟩
          go_wp2_with fail
          go_ret
          exact ⟨rfl, below_step (below_drewN d7 kk) b9 (Nat.le_refl _)⟩
    · obtain rfl : pv = [] := herr hpe
      have hx : (pe != 0) = true := by simpa using hpe
      clear herr hpe g1
      go_wp2_with fail
      refine (P1.out).mono ?_
      rintro e w2 ⟨A2, c2, rfl, o2, b2⟩
      have d2 := below_step b1 b2 (Nat.le_refl _)
      clear o2
      go_wp2_with fail
      refine (known29_any _).mono ?_
      rintro e w5 ⟨rfl, b5⟩
      go_wp2_with fail
      go_ret
      exact ⟨rfl, below_step d2 b5 (Nat.le_refl _)⟩
  · clear hl
    rcases (show b = false ∨ (b = true ∧ 1000 < n') by
      cases b with
      | false => exact .inl rfl
      | true =>
        right
        exact ⟨rfl, by have : ¬ n' ≤ 1000 := fun h => hno ⟨rfl, h⟩; omega⟩) with rfl | ⟨rfl, h5⟩
    all_goals
      clear hno
      go_wp2_with fail
      refine (known29_any _).mono ?_
      rintro e w2 ⟨rfl, b2⟩
      go_wp2_with fail
      go_ret
      exact ⟨rfl, b2⟩
end Go.Proofs.Ytecgahhdbhdplaa
