/-
  Walks: types.unquote, the reference's text.
  Conditions: none.
-/
import Derived.Test.YtnppihlalhaldaaTypUnq
namespace Go.Proofs.Ytnppihlalhaldaa
set_option linter.unusedVariables false
set_option linter.unusedSimpArgs false
open Go.RowKit
def UnqRel (t : List UInt8) (w : World) (o m i : Value) (wr : World) : Prop := ∃ (j : Nat) (x : Bool) (out : List UInt8) (A : Option Addr) (c : Nat), j ≤ t.length ∧ i = .int .i64 ((j : Int) + 1) ∧ m = .bool x ∧ o = .slice A out.length c ∧ UnRel t j x out ∧ OB wr w.heap.size A out.length c out ∧ Below w.heap.size w wr
theorem sign_cases (x : UInt8) : (x = 34 ∧ Ty.mark x = true ∧ ((x.toNat : Int) == 34) = true) ∨ (x = 92 ∧ Ty.mark x = true ∧ ((x.toNat : Int) == 34) = false ∧ ((x.toNat : Int) == 92) = true) ∨ (Ty.mark x = false ∧ ((x.toNat : Int) == 34) = false ∧ ((x.toNat : Int) == 92) = false) := by
  by_cases h1 : x = 34
  · subst h1; exact .inl ⟨rfl, rfl, rfl⟩
  · have e1 : ((x.toNat : Int) == 34) = false := by
      rw [beq_eq_false_iff_ne]
      intro h
      exact h1 (UInt8.toNat_inj.1 (by have : (34 : UInt8).toNat = 34 := rfl; omega))
    by_cases h2 : x = 92
    · subst h2; exact .inr (.inl ⟨rfl, rfl, rfl, rfl⟩)
    · have e2 : ((x.toNat : Int) == 92) = false := by
        rw [beq_eq_false_iff_ne]
        intro h
        exact h2 (UInt8.toNat_inj.1 (by have : (92 : UInt8).toNat = 92 := rfl; omega))
      refine .inr (.inr ⟨?_, e1, e2⟩)
      unfold Ty.mark
      simp [h1, h2]
theorem neq_of_beq {x : UInt8} {b : Bool} (h : (x == 34) = b) : ((x.toNat : Int) != 34) = !b := by
  rw [← h, ← byte_beq x 34]; rfl
set_option maxRecDepth 100000 in
set_option maxHeartbeats 8000000 in
theorem unquote_any (s : List UInt8) (w : World) (hs : s.length ≤ 1000000) : Calls Try.prog 71 #[.string (T s)] w (UnqPost (Ty.unq s) w) := by
  have hT := T_size s
  by_cases h2 : s.length < 2
  · have HU := Lib.hid (unq_bad (s := s) (.inl h2))
    go_enter Try.func71, Try.ntmps71
    go_wp2_with fail
    go_ret2
    exact unq_no HU.out (Below.refl _ _)
  · have hat0 := fun w => run_T_at s .i64 0 0 rfl (by omega) w
    have hatn := fun w => run_T_at s .i64 ((s.length : Int) - 1) (s.length - 1) (by omega) (by omega) w
    have hun := unq_bad (s := s)
    have hsp := unq_split (s := s) (by omega)
    by_cases h0 : s.getD 0 0 = 34
    · rw [h0] at hat0
      by_cases hn : s.getD (s.length - 1) 0 = 34
      · rw [hn] at hatn
        obtain ⟨t, ht1, ht2, ht3⟩ := hsp h0 hn
        have hu : Ty.unq s = Ty.unF t := by rw [ht1]; exact unq_mid t
        have HU := Lib.hid hu; have HT3 := Lib.hid ht3
        have htl : t.length + 2 ≤ s.length := by omega
        have htl2 : s.length ≤ t.length + 2 := by omega
        have o0 := OB.new (base := w.heap.size) w [] 0 rfl (by omega) (Nat.le_refl _)
        have b0 := alloc_one w (.cells #[] 5)
        clear hun hsp h0 hn hu ht1 ht2 ht3
        go_enter Try.func71, Try.ntmps71
        go_wp2_with fail
        go_loopw [5, 6, 7] (fun o m i wr => UnqRel t w o m i wr) (fun _ _ i _ => t.length + 1 - (intOf i).toNat)
        case atStart => exact ⟨0, false, [], _, _, by omega, rfl, rfl, rfl, UnRel.start t, o0, b0⟩
        case round =>
          clear o0 b0 hat0 hatn
          obtain ⟨j, m, out, A, c, hj, rfl, rfl, rfl, hr, ob, bb⟩ := hrel
          have hol := hr.len
          have HR := Lib.hid hr; clear hr
          have hz := bb.size
          by_cases hlt : j < t.length
          · have hat := fun w => run_T_at s .i64 ((j : Int) + 1) (j + 1) (by omega) (by omega) w
            rw [HT3.out j hlt] at hat
            have hbad := HR.out.bad hlt
            have hpush := HR.out.push hlt
            have hmask : m = false → t.getD j 0 = 92 → UnRel t (j + 1) true out := fun h => by subst h; exact HR.out.mask hlt
            generalize t.getD j 0 = x at *
            have HB := Lib.hid hbad; have HP := Lib.hid hpush; have HM := Lib.hid hmask
            clear hbad hpush hmask
            rcases sign_cases x with ⟨hx, hm, e1⟩ | ⟨hx, hm, e1, e2⟩ | ⟨hm, e1, e2⟩
            · have HX := Lib.hid hx; have HMK := Lib.hid hm
              clear hx hm
              cases m with
              | true =>
                have HP2 := Lib.hid (HP.out HMK.out.symm)
                go_wp2_with (at_builtin; refine wpList_appb_one etb rfl (.tmp 60) (.tmp 62) rfl rfl rfl w.heap.size ob x rfl (by omega) hz ?_; intro A3 c3 w3 o3 b3 _ _)
                go_roundw
                case rel => exact ⟨j + 1, false, out ++ [x], A3, c3, by omega, by go_num, rfl, by simp, HP2.out, by simpa using o3, bb.trans b3⟩
                case measure => simp [intOf] <;> omega
              | false =>
                have HN := Lib.hid (HB.out (.inr ⟨rfl, HX.out⟩))
                go_wp2_with fail
                go_ret2
                exact unq_no (by rw [HU.out, HN.out]) bb
            · have HX := Lib.hid hx; have HMK := Lib.hid hm
              clear hx hm
              cases m with
              | true =>
                have HP2 := Lib.hid (HP.out HMK.out.symm)
                go_wp2_with (at_builtin; refine wpList_appb_one etb rfl (.tmp 60) (.tmp 62) rfl rfl rfl w.heap.size ob x rfl (by omega) hz ?_; intro A3 c3 w3 o3 b3 _ _)
                go_roundw
                case rel => exact ⟨j + 1, false, out ++ [x], A3, c3, by omega, by go_num, rfl, by simp, HP2.out, by simpa using o3, bb.trans b3⟩
                case measure => simp [intOf] <;> omega
              | false =>
                have HM2 := Lib.hid (HM.out rfl HX.out)
                go_wp2_with fail
                go_roundw
                case rel => exact ⟨j + 1, true, out, A, c, by omega, by go_num, rfl, rfl, HM2.out, ob, bb⟩
                case measure => simp [intOf] <;> omega
            · have HMK := Lib.hid hm
              clear hm
              cases m with
              | true =>
                have HN := Lib.hid (HB.out (.inl ⟨rfl, HMK.out⟩))
                go_wp2_with fail
                go_ret2
                exact unq_no (by rw [HU.out, HN.out]) bb
              | false =>
                have HP2 := Lib.hid (HP.out HMK.out.symm)
                go_wp2_with (at_builtin; refine wpList_appb_one etb rfl (.tmp 60) (.tmp 62) rfl rfl rfl w.heap.size ob x rfl (by omega) hz ?_; intro A3 c3 w3 o3 b3 _ _)
                go_roundw
                case rel => exact ⟨j + 1, false, out ++ [x], A3, c3, by omega, by go_num, rfl, by simp, HP2.out, by simpa using o3, bb.trans b3⟩
                case measure => simp [intOf] <;> omega
          · obtain rfl : j = t.length := by omega
            have HD := Lib.hid HR.out.done
            cases m with
            | true =>
              go_wp2_with fail
              go_ret2
              exact unq_no (by rw [HU.out, HD.out]; rfl) bb
            | false =>
              go_wp2_with fail
              go_ret2
              exact unq_yes (by rw [HU.out, HD.out]; rfl) ob bb
      · have HU := Lib.hid (hun (.inr (.inr hn)))
        have e1 : (((s.getD (s.length - 1) 0).toNat : Int) != 34) = true := neq_of_beq (b := false) (by simpa using hn)
        generalize s.getD (s.length - 1) 0 = z at *
        clear hun hsp hn h0
        go_enter Try.func71, Try.ntmps71
        go_wp2_with fail
        go_ret2
        exact unq_no HU.out (Below.refl _ _)
    · have HU := Lib.hid (hun (.inr (.inl h0)))
      have e1 : (((s.getD 0 0).toNat : Int) != 34) = true := neq_of_beq (b := false) (by simpa using h0)
      generalize s.getD 0 0 = z at *
      clear hun hsp h0
      go_enter Try.func71, Try.ntmps71
      go_wp2_with fail
      go_ret2
      exact unq_no HU.out (Below.refl _ _)
def TxtRel (t : List UInt8) (w : World) (o i : Value) (wr : World) : Prop := ∃ (j : Nat) (out : List UInt8) (A : Option Addr) (c : Nat), j ≤ t.length ∧ i = .int .i64 ((j : Int) + 1) ∧ o = .slice A out.length c ∧ UnRel t j false out ∧ OB wr w.heap.size A out.length c out ∧ Below w.heap.size w wr
set_option maxRecDepth 100000 in
set_option maxHeartbeats 8000000 in
theorem rtext_any (s : List UInt8) (w : World) (hs : s.length ≤ 1000000) : Calls Try.prog 47 #[.string (T s)] w (UnqPost (Ty.unq s) w) := by
  have hT := T_size s
  by_cases h2 : s.length < 2
  · have HU := Lib.hid (unq_bad (s := s) (.inl h2))
    go_enter Try.func47, Try.ntmps47
    go_wp2_with fail
    go_ret2
    exact unq_no HU.out (Below.refl _ _)
  · have hat0 := fun w => run_T_at s .i64 0 0 rfl (by omega) w
    have hatn := fun w => run_T_at s .i64 ((s.length : Int) - 1) (s.length - 1) (by omega) (by omega) w
    have hun := unq_bad (s := s)
    have hsp := unq_split (s := s) (by omega)
    by_cases h0 : s.getD 0 0 = 34
    · rw [h0] at hat0
      by_cases hn : s.getD (s.length - 1) 0 = 34
      · rw [hn] at hatn
        obtain ⟨t, ht1, ht2, ht3⟩ := hsp h0 hn
        have hu : Ty.unq s = Ty.unF t := by rw [ht1]; exact unq_mid t
        have HU := Lib.hid hu; have HT3 := Lib.hid ht3
        have htl : t.length + 2 ≤ s.length := by omega
        have htl2 : s.length ≤ t.length + 2 := by omega
        clear hun hsp h0 hn hu ht1 ht2 ht3
        go_enter Try.func47, Try.ntmps47
        go_wp2_with fail
        go_loopw [4, 5] (fun o i wr => TxtRel t w o i wr) (fun _ i _ => t.length + 1 - (intOf i).toNat)
        case atStart => exact ⟨0, [], none, 0, by omega, rfl, rfl, UnRel.start t, OB.none_ _ _, Below.refl _ _⟩
        case round =>
          clear hat0 hatn
          obtain ⟨j, out, A, c, hj, rfl, rfl, hr, ob, bb⟩ := hrel
          have hol := hr.len
          have HR := Lib.hid hr; clear hr
          have hz := bb.size
          by_cases hlt : j < t.length
          · have hat := fun w => run_T_at s .i64 ((j : Int) + 1) (j + 1) (by omega) (by omega) w
            rw [HT3.out j hlt] at hat
            have hbad := HR.out.bad hlt
            have hpush := HR.out.push hlt
            have hmask := HR.out.mask hlt
            generalize t.getD j 0 = x at *
            have HB := Lib.hid hbad; have HP := Lib.hid hpush; have HM := Lib.hid hmask
            clear hbad hpush hmask
            rcases sign_cases x with ⟨hx, hm, e1⟩ | ⟨hx, hm, e1, e2⟩ | ⟨hm, e1, e2⟩
            · have HX := Lib.hid hx
              have HN := Lib.hid (HB.out (.inr ⟨rfl, HX.out⟩))
              clear hx hm
              go_wp2_with fail
              go_ret2
              exact unq_no (by rw [HU.out, HN.out]) bb
            · have HM2 := Lib.hid (HM.out hx)
              clear hx hm
              by_cases hlt2 : j + 1 < t.length
              · have hat2 := fun w => run_T_at s .i64 ((j : Int) + 1 + 1) (j + 1 + 1) (by omega) (by omega) w
                rw [HT3.out (j + 1) hlt2] at hat2
                have hbad := HM2.out.bad hlt2
                have hpush := HM2.out.push hlt2
                generalize t.getD (j + 1) 0 = y at *
                have HB2 := Lib.hid hbad; have HP2 := Lib.hid hpush
                clear hbad hpush
                rcases sign_cases y with ⟨hy, hmy, f1⟩ | ⟨hy, hmy, f1, f2⟩ | ⟨hmy, f1, f2⟩
                · have HP3 := Lib.hid (HP2.out hmy.symm)
                  have g1 : ((y.toNat : Int) != 34) = false := by rw [bne, f1]; rfl
                  clear hy hmy
                  go_wp2_with (at_builtin; refine wpList_appb_one etb rfl (.tmp 56) (.tmp 60) rfl rfl rfl w.heap.size ob y rfl (by omega) hz ?_; intro A3 c3 w3 o3 b3 _ _)
                  go_roundw
                  case rel => exact ⟨j + 1 + 1, out ++ [y], A3, c3, by omega, by go_num, by simp, HP3.out, by simpa using o3, bb.trans b3⟩
                  case measure => simp [intOf] <;> omega
                · have HP3 := Lib.hid (HP2.out hmy.symm)
                  have g1 : ((y.toNat : Int) != 34) = true := by rw [bne, f1]; rfl
                  have g2 : ((y.toNat : Int) != 92) = false := by rw [bne, f2]; rfl
                  clear hy hmy
                  go_wp2_with (at_builtin; refine wpList_appb_one etb rfl (.tmp 56) (.tmp 60) rfl rfl rfl w.heap.size ob y rfl (by omega) hz ?_; intro A3 c3 w3 o3 b3 _ _)
                  go_roundw
                  case rel => exact ⟨j + 1 + 1, out ++ [y], A3, c3, by omega, by go_num, by simp, HP3.out, by simpa using o3, bb.trans b3⟩
                  case measure => simp [intOf] <;> omega
                · have HN := Lib.hid (HB2.out (.inl ⟨rfl, hmy⟩))
                  have g1 : ((y.toNat : Int) != 34) = true := by rw [bne, f1]; rfl
                  have g2 : ((y.toNat : Int) != 92) = true := by rw [bne, f2]; rfl
                  clear hmy
                  go_wp2_with fail
                  go_ret2
                  exact unq_no (by rw [HU.out, HN.out]) bb
              · have HD := Lib.hid (show Ty.unF t = none by
                  have h := HM2.out
                  rw [show j + 1 = t.length by omega] at h
                  rw [h.done]; rfl)
                have hj1 : ((j : Int) + 1 + 1 == (s.length : Int) - 1) = true := by rw [beq_iff_eq]; omega
                go_wp2_with fail
                go_ret2
                exact unq_no (by rw [HU.out, HD.out]) bb
            · have HP2 := Lib.hid (HP.out hm.symm)
              clear hm
              go_wp2_with (at_builtin; refine wpList_appb_one etb rfl (.tmp 56) (.tmp 60) rfl rfl rfl w.heap.size ob x rfl (by omega) hz ?_; intro A3 c3 w3 o3 b3 _ _)
              go_roundw
              case rel => exact ⟨j + 1, out ++ [x], A3, c3, by omega, by go_num, by simp, HP2.out, by simpa using o3, bb.trans b3⟩
              case measure => simp [intOf] <;> omega
          · obtain rfl : j = t.length := by omega
            have HD := Lib.hid HR.out.done
            go_wp2_with fail
            go_ret2
            exact unq_yes (by rw [HU.out, HD.out]; rfl) ob bb
      · have HU := Lib.hid (hun (.inr (.inr hn)))
        have e1 : (((s.getD (s.length - 1) 0).toNat : Int) != 34) = true := neq_of_beq (b := false) (by simpa using hn)
        generalize s.getD (s.length - 1) 0 = z at *
        clear hun hsp hn h0
        go_enter Try.func47, Try.ntmps47
        go_wp2_with fail
        go_ret2
        exact unq_no HU.out (Below.refl _ _)
    · have HU := Lib.hid (hun (.inr (.inl h0)))
      have e1 : (((s.getD 0 0).toNat : Int) != 34) = true := neq_of_beq (b := false) (by simpa using h0)
      generalize s.getD 0 0 = z at *
      clear hun hsp h0
      go_enter Try.func47, Try.ntmps47
      go_wp2_with fail
      go_ret2
      exact unq_no HU.out (Below.refl _ _)
end Go.Proofs.Ytnppihlalhaldaa
