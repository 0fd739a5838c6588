/-
  Texts joined: TypUnw, OctHex, OctHexR, OctHexU.
  Conditions: none.
-/
import Derived.Test.YtmolmpgampmolaaGreatJ01
import Derived.Test.YtmolmpgampmolaaGreatJ03
import Derived.Test.YtmolmpgampmolaaGreatJ04
import Derived.Test.YtmolmpgampmolaaGreatJ14
import Derived.Laws.Concat
import Derived.StillTailTactics
/-
  Walks: types.unquote, the reference's text.
  Conditions: none.
-/
namespace Go.Proofs.YtmolmpgampmolaaGreat
set_option linter.unusedVariables false
set_option linter.unusedSimpArgs false
open Go.RowKit
def UnqRel (t : List UInt8) (w : World) (o m i : Value) (wr : World) : Prop := ∃ (j : Nat) (x : Bool) (out : List UInt8) (A : Option Addr) (c : Nat), j ≤ t.length ∧ i = .int .i64 ((j : Int) + 1) ∧ m = .bool x ∧ o = .slice A out.length c ∧ UnRel t j x out ∧ OB wr w.heap.size A out.length c out ∧ Below w.heap.size w wr
theorem sign_cases (x : UInt8) : (x = 34 ∧ Ty.mark x = true ∧ ((x.toNat : Int) == 34) = true) ∨ (x = 92 ∧ Ty.mark x = true ∧ ((x.toNat : Int) == 34) = false ∧ ((x.toNat : Int) == 92) = true) ∨ (Ty.mark x = false ∧ ((x.toNat : Int) == 34) = false ∧ ((x.toNat : Int) == 92) = false) := by
  by_cases h1 : x = 34
  · subst h1; exact .inl ⟨rfl, rfl, rfl⟩
  · have e1 : ((x.toNat : Int) == 34) = false := by
      rw [beq_eq_false_iff_ne]
      intro h
      exact h1 (UInt8.toNat_inj.1 (by have : (34 : UInt8).toNat = 34 := rfl; omega))
    by_cases h2 : x = 92
    · subst h2; exact .inr (.inl ⟨rfl, rfl, rfl, rfl⟩)
    · have e2 : ((x.toNat : Int) == 92) = false := by
        rw [beq_eq_false_iff_ne]
        intro h
        exact h2 (UInt8.toNat_inj.1 (by have : (92 : UInt8).toNat = 92 := rfl; omega))
      refine .inr (.inr ⟨?_, e1, e2⟩)
      unfold Ty.mark
      simp [h1, h2]
theorem neq_of_beq {x : UInt8} {b : Bool} (h : (x == 34) = b) : ((x.toNat : Int) != 34) = !b := by
  rw [← h, ← byte_beq x 34]; rfl
set_option maxRecDepth 100000 in
set_option maxHeartbeats 8000000 in
theorem unquote_any (s : List UInt8) (w : World) (hs : s.length ≤ 1000000) : Calls Tryz.prog 127 #[.string (T s)] w (UnqPost (Ty.unq s) w) := by
  have hT := T_size s
  by_cases h2 : s.length < 2
  · have HU := Lib.hid (unq_bad (s := s) (.inl h2))
    go_enter Tryz.func127, Tryz.ntmps127
    go_wp2_with fail
    go_ret2
    exact unq_no HU.out (Below.refl _ _)
  · have hat0 := fun w => run_T_at s .i64 0 0 rfl (by omega) w
    have hatn := fun w => run_T_at s .i64 ((s.length : Int) - 1) (s.length - 1) (by omega) (by omega) w
    have hun := unq_bad (s := s)
    have hsp := unq_split (s := s) (by omega)
    by_cases h0 : s.getD 0 0 = 34
    · rw [h0] at hat0
      by_cases hn : s.getD (s.length - 1) 0 = 34
      · rw [hn] at hatn
        obtain ⟨t, ht1, ht2, ht3⟩ := hsp h0 hn
        have hu : Ty.unq s = Ty.unF t := by rw [ht1]; exact unq_mid t
        have HU := Lib.hid hu; have HT3 := Lib.hid ht3
        have htl : t.length + 2 ≤ s.length := by omega
        have htl2 : s.length ≤ t.length + 2 := by omega
        have o0 := OB.new (base := w.heap.size) w [] 0 rfl (by omega) (Nat.le_refl _)
        have b0 := alloc_one w (.cells #[] 5)
        clear hun hsp h0 hn hu ht1 ht2 ht3
        go_enter Tryz.func127, Tryz.ntmps127
        go_wp2_with fail
        go_loopw [5, 6, 7] (fun o m i wr => UnqRel t w o m i wr) (fun _ _ i _ => t.length + 1 - (intOf i).toNat)
        case atStart => exact ⟨0, false, [], _, _, by omega, rfl, rfl, rfl, UnRel.start t, o0, b0⟩
        case round =>
          clear o0 b0 hat0 hatn
          obtain ⟨j, m, out, A, c, hj, rfl, rfl, rfl, hr, ob, bb⟩ := hrel
          have hol := hr.len
          have HR := Lib.hid hr; clear hr
          have hz := bb.size
          by_cases hlt : j < t.length
          · have hat := fun w => run_T_at s .i64 ((j : Int) + 1) (j + 1) (by omega) (by omega) w
            rw [HT3.out j hlt] at hat
            have hbad := HR.out.bad hlt
            have hpush := HR.out.push hlt
            have hmask : m = false → t.getD j 0 = 92 → UnRel t (j + 1) true out := fun h => by subst h; exact HR.out.mask hlt
            generalize t.getD j 0 = x at *
            have HB := Lib.hid hbad; have HP := Lib.hid hpush; have HM := Lib.hid hmask
            clear hbad hpush hmask
            rcases sign_cases x with ⟨hx, hm, e1⟩ | ⟨hx, hm, e1, e2⟩ | ⟨hm, e1, e2⟩
            · have HX := Lib.hid hx; have HMK := Lib.hid hm
              clear hx hm
              cases m with
              | true =>
                have HP2 := Lib.hid (HP.out HMK.out.symm)
                go_wp2_with (at_builtin; refine wpList_appb_one etb rfl (.tmp 60) (.tmp 62) rfl rfl rfl w.heap.size ob x rfl (by omega) hz ?_; intro A3 c3 w3 o3 b3 _ _)
                go_roundw
                case rel => exact ⟨j + 1, false, out ++ [x], A3, c3, by omega, by go_num, rfl, by simp, HP2.out, by simpa using o3, bb.trans b3⟩
                case measure => simp [intOf] <;> omega
              | false =>
                have HN := Lib.hid (HB.out (.inr ⟨rfl, HX.out⟩))
                go_wp2_with fail
                go_ret2
                exact unq_no (by rw [HU.out, HN.out]) bb
            · have HX := Lib.hid hx; have HMK := Lib.hid hm
              clear hx hm
              cases m with
              | true =>
                have HP2 := Lib.hid (HP.out HMK.out.symm)
                go_wp2_with (at_builtin; refine wpList_appb_one etb rfl (.tmp 60) (.tmp 62) rfl rfl rfl w.heap.size ob x rfl (by omega) hz ?_; intro A3 c3 w3 o3 b3 _ _)
                go_roundw
                case rel => exact ⟨j + 1, false, out ++ [x], A3, c3, by omega, by go_num, rfl, by simp, HP2.out, by simpa using o3, bb.trans b3⟩
                case measure => simp [intOf] <;> omega
              | false =>
                have HM2 := Lib.hid (HM.out rfl HX.out)
                go_wp2_with fail
                go_roundw
                case rel => exact ⟨j + 1, true, out, A, c, by omega, by go_num, rfl, rfl, HM2.out, ob, bb⟩
                case measure => simp [intOf] <;> omega
            · have HMK := Lib.hid hm
              clear hm
              cases m with
              | true =>
                have HN := Lib.hid (HB.out (.inl ⟨rfl, HMK.out⟩))
                go_wp2_with fail
                go_ret2
                exact unq_no (by rw [HU.out, HN.out]) bb
              | false =>
                have HP2 := Lib.hid (HP.out HMK.out.symm)
                go_wp2_with (at_builtin; refine wpList_appb_one etb rfl (.tmp 60) (.tmp 62) rfl rfl rfl w.heap.size ob x rfl (by omega) hz ?_; intro A3 c3 w3 o3 b3 _ _)
                go_roundw
                case rel => exact ⟨j + 1, false, out ++ [x], A3, c3, by omega, by go_num, rfl, by simp, HP2.out, by simpa using o3, bb.trans b3⟩
                case measure => simp [intOf] <;> omega
          · obtain rfl : j = t.length := by omega
            have HD := Lib.hid HR.out.done
            cases m with
            | true =>
              go_wp2_with fail
              go_ret2
              exact unq_no (by rw [HU.out, HD.out]; rfl) bb
            | false =>
              go_wp2_with fail
              go_ret2
              exact unq_yes (by rw [HU.out, HD.out]; rfl) ob bb
      · have HU := Lib.hid (hun (.inr (.inr hn)))
        have e1 : (((s.getD (s.length - 1) 0).toNat : Int) != 34) = true := neq_of_beq (b := false) (by simpa using hn)
        generalize s.getD (s.length - 1) 0 = z at *
        clear hun hsp hn h0
        go_enter Tryz.func127, Tryz.ntmps127
        go_wp2_with fail
        go_ret2
        exact unq_no HU.out (Below.refl _ _)
    · have HU := Lib.hid (hun (.inr (.inl h0)))
      have e1 : (((s.getD 0 0).toNat : Int) != 34) = true := neq_of_beq (b := false) (by simpa using h0)
      generalize s.getD 0 0 = z at *
      clear hun hsp h0
      go_enter Tryz.func127, Tryz.ntmps127
      go_wp2_with fail
      go_ret2
      exact unq_no HU.out (Below.refl _ _)
def TxtRel (t : List UInt8) (w : World) (o i : Value) (wr : World) : Prop := ∃ (j : Nat) (out : List UInt8) (A : Option Addr) (c : Nat), j ≤ t.length ∧ i = .int .i64 ((j : Int) + 1) ∧ o = .slice A out.length c ∧ UnRel t j false out ∧ OB wr w.heap.size A out.length c out ∧ Below w.heap.size w wr
set_option maxRecDepth 100000 in
set_option maxHeartbeats 8000000 in
theorem rtext_any (s : List UInt8) (w : World) (hs : s.length ≤ 1000000) : Calls Tryz.prog 61 #[.string (T s)] w (UnqPost (Ty.unq s) w) := by
  have hT := T_size s
  by_cases h2 : s.length < 2
  · have HU := Lib.hid (unq_bad (s := s) (.inl h2))
    go_enter Tryz.func61, Tryz.ntmps61
    go_wp2_with fail
    go_ret2
    exact unq_no HU.out (Below.refl _ _)
  · have hat0 := fun w => run_T_at s .i64 0 0 rfl (by omega) w
    have hatn := fun w => run_T_at s .i64 ((s.length : Int) - 1) (s.length - 1) (by omega) (by omega) w
    have hun := unq_bad (s := s)
    have hsp := unq_split (s := s) (by omega)
    by_cases h0 : s.getD 0 0 = 34
    · rw [h0] at hat0
      by_cases hn : s.getD (s.length - 1) 0 = 34
      · rw [hn] at hatn
        obtain ⟨t, ht1, ht2, ht3⟩ := hsp h0 hn
        have hu : Ty.unq s = Ty.unF t := by rw [ht1]; exact unq_mid t
        have HU := Lib.hid hu; have HT3 := Lib.hid ht3
        have htl : t.length + 2 ≤ s.length := by omega
        have htl2 : s.length ≤ t.length + 2 := by omega
        clear hun hsp h0 hn hu ht1 ht2 ht3
        go_enter Tryz.func61, Tryz.ntmps61
        go_wp2_with fail
        go_loopw [4, 5] (fun o i wr => TxtRel t w o i wr) (fun _ i _ => t.length + 1 - (intOf i).toNat)
        case atStart => exact ⟨0, [], none, 0, by omega, rfl, rfl, UnRel.start t, OB.none_ _ _, Below.refl _ _⟩
        case round =>
          clear hat0 hatn
          obtain ⟨j, out, A, c, hj, rfl, rfl, hr, ob, bb⟩ := hrel
          have hol := hr.len
          have HR := Lib.hid hr; clear hr
          have hz := bb.size
          by_cases hlt : j < t.length
          · have hat := fun w => run_T_at s .i64 ((j : Int) + 1) (j + 1) (by omega) (by omega) w
            rw [HT3.out j hlt] at hat
            have hbad := HR.out.bad hlt
            have hpush := HR.out.push hlt
            have hmask := HR.out.mask hlt
            generalize t.getD j 0 = x at *
            have HB := Lib.hid hbad; have HP := Lib.hid hpush; have HM := Lib.hid hmask
            clear hbad hpush hmask
            rcases sign_cases x with ⟨hx, hm, e1⟩ | ⟨hx, hm, e1, e2⟩ | ⟨hm, e1, e2⟩
            · have HX := Lib.hid hx
              have HN := Lib.hid (HB.out (.inr ⟨rfl, HX.out⟩))
              clear hx hm
              go_wp2_with fail
              go_ret2
              exact unq_no (by rw [HU.out, HN.out]) bb
            · have HM2 := Lib.hid (HM.out hx)
              clear hx hm
              by_cases hlt2 : j + 1 < t.length
              · have hat2 := fun w => run_T_at s .i64 ((j : Int) + 1 + 1) (j + 1 + 1) (by omega) (by omega) w
                rw [HT3.out (j + 1) hlt2] at hat2
                have hbad := HM2.out.bad hlt2
                have hpush := HM2.out.push hlt2
                generalize t.getD (j + 1) 0 = y at *
                have HB2 := Lib.hid hbad; have HP2 := Lib.hid hpush
                clear hbad hpush
                rcases sign_cases y with ⟨hy, hmy, f1⟩ | ⟨hy, hmy, f1, f2⟩ | ⟨hmy, f1, f2⟩
                · have HP3 := Lib.hid (HP2.out hmy.symm)
                  have g1 : ((y.toNat : Int) != 34) = false := by rw [bne, f1]; rfl
                  clear hy hmy
                  go_wp2_with (at_builtin; refine wpList_appb_one etb rfl (.tmp 56) (.tmp 60) rfl rfl rfl w.heap.size ob y rfl (by omega) hz ?_; intro A3 c3 w3 o3 b3 _ _)
                  go_roundw
                  case rel => exact ⟨j + 1 + 1, out ++ [y], A3, c3, by omega, by go_num, by simp, HP3.out, by simpa using o3, bb.trans b3⟩
                  case measure => simp [intOf] <;> omega
                · have HP3 := Lib.hid (HP2.out hmy.symm)
                  have g1 : ((y.toNat : Int) != 34) = true := by rw [bne, f1]; rfl
                  have g2 : ((y.toNat : Int) != 92) = false := by rw [bne, f2]; rfl
                  clear hy hmy
                  go_wp2_with (at_builtin; refine wpList_appb_one etb rfl (.tmp 56) (.tmp 60) rfl rfl rfl w.heap.size ob y rfl (by omega) hz ?_; intro A3 c3 w3 o3 b3 _ _)
                  go_roundw
                  case rel => exact ⟨j + 1 + 1, out ++ [y], A3, c3, by omega, by go_num, by simp, HP3.out, by simpa using o3, bb.trans b3⟩
                  case measure => simp [intOf] <;> omega
                · have HN := Lib.hid (HB2.out (.inl ⟨rfl, hmy⟩))
                  have g1 : ((y.toNat : Int) != 34) = true := by rw [bne, f1]; rfl
                  have g2 : ((y.toNat : Int) != 92) = true := by rw [bne, f2]; rfl
                  clear hmy
                  go_wp2_with fail
                  go_ret2
                  exact unq_no (by rw [HU.out, HN.out]) bb
              · have HD := Lib.hid (show Ty.unF t = none by
                  have h := HM2.out
                  rw [show j + 1 = t.length by omega] at h
                  rw [h.done]; rfl)
                have hj1 : ((j : Int) + 1 + 1 == (s.length : Int) - 1) = true := by rw [beq_iff_eq]; omega
                go_wp2_with fail
                go_ret2
                exact unq_no (by rw [HU.out, HD.out]) bb
            · have HP2 := Lib.hid (HP.out hm.symm)
              clear hm
              go_wp2_with (at_builtin; refine wpList_appb_one etb rfl (.tmp 56) (.tmp 60) rfl rfl rfl w.heap.size ob x rfl (by omega) hz ?_; intro A3 c3 w3 o3 b3 _ _)
              go_roundw
              case rel => exact ⟨j + 1, out ++ [x], A3, c3, by omega, by go_num, by simp, HP2.out, by simpa using o3, bb.trans b3⟩
              case measure => simp [intOf] <;> omega
          · obtain rfl : j = t.length := by omega
            have HD := Lib.hid HR.out.done
            go_wp2_with fail
            go_ret2
            exact unq_yes (by rw [HU.out, HD.out]; rfl) ob bb
      · have HU := Lib.hid (hun (.inr (.inr hn)))
        have e1 : (((s.getD (s.length - 1) 0).toNat : Int) != 34) = true := neq_of_beq (b := false) (by simpa using hn)
        generalize s.getD (s.length - 1) 0 = z at *
        clear hun hsp hn h0
        go_enter Tryz.func61, Tryz.ntmps61
        go_wp2_with fail
        go_ret2
        exact unq_no HU.out (Below.refl _ _)
    · have HU := Lib.hid (hun (.inr (.inl h0)))
      have e1 : (((s.getD 0 0).toNat : Int) != 34) = true := neq_of_beq (b := false) (by simpa using h0)
      generalize s.getD 0 0 = z at *
      clear hun hsp h0
      go_enter Tryz.func61, Tryz.ntmps61
      go_wp2_with fail
      go_ret2
      exact unq_no HU.out (Below.refl _ _)
end Go.Proofs.YtmolmpgampmolaaGreat
/-
  Walks: the program's nibble and Hex, the reference's digit.
  Conditions: none.
-/
namespace Go.Proofs.YtmolmpgampmolaaGreat
set_option linter.unusedVariables false
set_option linter.unusedSimpArgs false
open Go.RowKit
set_option maxHeartbeats 1000000 in
theorem nibble_some (c : UInt8) (k : Nat) (w : World) (h : Oct.nib c = some k) :
    Calls Tryz.prog 134 #[.int .u8 (c.toNat : Int)] w fun e w' => e = .returned (.tuple #[.int .u8 (k : Int), .bool true]) ∧ w = w' := by
  have hc := byte_lt c
  unfold Oct.nib at h
  generalize c.toNat = d at *
  by_cases h1 : 48 ≤ d ∧ d ≤ 57
  · rw [if_pos h1] at h
    injection h with h
    obtain ⟨h1, h2⟩ := h1
    obtain ⟨k', rfl⟩ : ∃ k', d = k' + 48 := ⟨d - 48, by omega⟩
    obtain rfl : k' = k := by omega
    clear h
    go_enter Tryz.func134, Tryz.ntmps134
    go_wp2_with fail
    go_ret2
    exact ⟨rfl, rfl⟩
  · rw [if_neg h1] at h
    by_cases h2 : 97 ≤ d ∧ d ≤ 102
    · rw [if_pos h2] at h
      injection h with h
      clear h1
      obtain ⟨h1, h2⟩ := h2
      obtain ⟨k', rfl⟩ : ∃ k', d = k' + 97 := ⟨d - 97, by omega⟩
      obtain rfl : k' + 10 = k := by omega
      clear h
      go_enter Tryz.func134, Tryz.ntmps134
      go_wp2_with fail
      go_ret2
      exact ⟨rfl, rfl⟩
    · rw [if_neg h2] at h
      cases h
set_option maxHeartbeats 1000000 in
theorem nibble_none (c : UInt8) (w : World) (h : Oct.nib c = none) :
    Calls Tryz.prog 134 #[.int .u8 (c.toNat : Int)] w fun e w' => e = .returned (.tuple #[.int .u8 0, .bool false]) ∧ w = w' := by
  have hc := byte_lt c
  unfold Oct.nib at h
  generalize c.toNat = d at *
  split at h
  · cases h
  · rename_i h1
    split at h
    · cases h
    · rename_i h2
      clear h
      by_cases ha : d < 48
      · clear h1 h2
        go_enter Tryz.func134, Tryz.ntmps134
        go_wp2_with fail
        go_ret2
        exact ⟨rfl, rfl⟩
      · by_cases hb : d < 97
        · have hc2 : 57 < d := by omega
          clear h1 h2
          go_enter Tryz.func134, Tryz.ntmps134
          go_wp2_with fail
          go_ret2
          exact ⟨rfl, rfl⟩
        · have hc2 : 102 < d := by omega
          clear h1 h2
          go_enter Tryz.func134, Tryz.ntmps134
          go_wp2_with fail
          go_ret2
          exact ⟨rfl, rfl⟩
theorem hexd_get : ∀ j : Fin 16, (⟨#[48, 49, 50, 51, 52, 53, 54, 55, 56, 57, 97, 98, 99, 100, 101, 102]⟩ : ByteArray)[j.val]'(j.isLt) = Oct.dig j.val := by decide
theorem run_hexd (kd : IntKind) (z : Int) (k : Nat) (hz : z = (k : Int)) (hk : k < 16) (w : World) :
    (Instr.index 9 (.string ⟨#[48, 49, 50, 51, 52, 53, 54, 55, 56, 57, 97, 98, 99, 100, 101, 102]⟩) (.int kd z)).run Tryz.prog w = .ok (.int .u8 ((Oct.dig k).toNat : Int)) w := by
  subst hz
  rw [run_index_string w _ _ kd _ Tryz.underlying9, dif_pos ⟨by omega, by exact Int.ofNat_lt.2 hk⟩]
  have e : ((k : Int)).toNat = k := by omega
  simp only [e]
  rw [hexd_get ⟨k, hk⟩]
set_option maxHeartbeats 1000000 in
theorem digit_any (c : UInt8) (w : World) :
    Calls Tryz.prog 114 #[.int .u8 (c.toNat : Int)] w fun e w' => e = .returned (.int .i64 (match Oct.nib c with | some k => (k : Int) | none => -1)) ∧ w = w' := by
  have hc := byte_lt c
  generalize hspec : (match Oct.nib c with | some k => (k : Int) | none => -1) = v
  have HS := Lib.hid hspec
  clear hspec
  go_enter Tryz.func114, Tryz.ntmps114
  go_wp2_with fail
  go_loop [3] (fun i => ∃ j : Nat, j ≤ 16 ∧ i = .int .i64 j ∧ ∀ i < j, Oct.dig i ≠ c) (fun i => 16 - (intOf i).toNat)
  case atStart => exact ⟨0, by omega, rfl, fun _ h => absurd h (by omega)⟩
  case round =>
    obtain ⟨j, hj, rfl, hne⟩ := hrel
    have HN := Lib.hid hne
    clear hne
    by_cases hlt : j < 16
    · have hg := hexd_get ⟨j, hlt⟩
      by_cases hd : Oct.dig j = c
      · have ht : ((((⟨#[48, 49, 50, 51, 52, 53, 54, 55, 56, 57, 97, 98, 99, 100, 101, 102]⟩ : ByteArray)[j]'hlt).toNat : Int) == (c.toNat : Int)) = true := by
          rw [byte_beq, beq_iff_eq]; exact hg.trans hd
        have HG := Lib.hid hd
        clear hg hd
        go_wp2_with fail
        go_ret
        exact ⟨by rw [← HS.out, show Oct.nib c = some j from HG.out ▸ Oct.nib_dig j hlt]; rfl, rfl⟩
      · have ht : ((((⟨#[48, 49, 50, 51, 52, 53, 54, 55, 56, 57, 97, 98, 99, 100, 101, 102]⟩ : ByteArray)[j]'hlt).toNat : Int) == (c.toNat : Int)) = false := by
          rw [byte_beq, beq_eq_false_iff_ne]; exact fun h => hd (hg.symm.trans h)
        have HG := Lib.hid hd
        clear hg hd
        go_wp2_with fail
        go_round
        case rel => exact ⟨j + 1, by omega, by go_num, fun i hi => by
          by_cases e : i = j
          · subst e; exact HG.out
          · exact HN.out i (by omega)⟩
        case measure => simp [intOf] <;> omega
    · go_wp2_with fail
      go_ret
      refine ⟨?_, rfl⟩
      rw [← HS.out]
      cases e : Oct.nib c with
      | none => rfl
      | some k => exact absurd (Oct.dig_nib e) (HN.out k (by have := Oct.nib_lt e; omega))
set_option maxHeartbeats 1000000 in
theorem Hex_any {A : Option Addr} {n c B : Nat} {l : List UInt8} (w : World) (hb : RB w B A n c l) (hn : n ≤ 100000) (hB : B ≤ w.heap.size) :
    Calls Tryz.prog 31 #[.slice A n c] w fun e w' => e = .returned (.string ⟨(Oct.hexS l).toArray⟩) ∧ Below w.heap.size w w' := by
  have hl := hb.len
  go_enter Tryz.func31, Tryz.ntmps31
  go_wp2_with (at_make; refine wpList_mkb etb rfl (.const (.int .i64 0)) (.tmp 8) rfl .i64 .i64 0 (2 * n) rfl rfl (by omega) (by omega) w.heap.size (Nat.le_refl _) ?_; intro w3 h3 hb3 hz3)
  go_loopw [3, 12] (fun v i wr => ∃ (j : Nat) (A1 : Option Addr) (c1 : Nat), j ≤ n ∧ i = .int .i64 j ∧ v = .slice A1 (2 * j) c1 ∧ OB wr w.heap.size A1 (2 * j) c1 (Oct.hexS (l.take j)) ∧ Below w.heap.size w wr) (fun _ i _ => n - (intOf i).toNat)
  case atStart => exact ⟨0, _, _, Nat.zero_le _, rfl, rfl, h3, hb3⟩
  case round =>
    obtain ⟨j, A1, c1, hj, rfl, rfl, hown, hbel⟩ := hrel
    have hbr := hb.below (hbel.mono hB)
    by_cases hlt : j < n
    · obtain ⟨g, o, rfl, hgB, hcl⟩ := hbr.at_ (by omega)
      have hcj := hcl j hlt
      have hx2 : (l.getD j 0).toNat < 256 := byte_lt _
      have hsn : Oct.hexS (l.take (j + 1)) = Oct.hexS (l.take j) ++ [Oct.dig ((l.getD j 0).toNat / 16), Oct.dig ((l.getD j 0).toNat % 16)] := by
        rw [← Oct.hexS_snoc]
        congr 1
        have : j < l.length := by omega
        rw [List.take_succ_eq_append_getElem this]
        simp [List.getD, this]
      have HSN := Lib.hid hsn
      clear hsn hcl
      generalize l.getD j 0 = x at *
      have hi1 := fun w => run_hexd .u8 ((x.toNat : Int) / 16) (x.toNat / 16) (by omega) (by omega) w
      have hi2 := fun w => run_hexd .u8 ((x.toNat : Int) % 16) (x.toNat % 16) (by omega) (by omega) w
      go_wp2_with fail
      refine region_since (w0 := w) (by kernel_rfl) ?_
      refine phase_later (by kernel_rfl) 3 (hbel.drew) [0, 1, 4, 2, 5, 3, 6] rfl (by kernel_rfl) ?_
      simp only [picks, nth]
      repeat (go_big_quiet_step (fail))
      refine wpQuiet_nil ?_
      refine phase_op 7 2 rfl (by kernel_rfl) (by decide) ?_
      simp only [nth]
      go_wp2_with fail
      have h4 := (RB.lit wr [.int .u8 ((Oct.dig (x.toNat / 16)).toNat : Int), .int .u8 ((Oct.dig (x.toNat % 16)).toNat : Int)] [Oct.dig (x.toNat / 16), Oct.dig (x.toNat % 16)] rfl (n := 2) rfl (by omega)).drew
      have o4 := (hown.alloc (.cells #[.int .u8 ((Oct.dig (x.toNat / 16)).toNat : Int), .int .u8 ((Oct.dig (x.toNat % 16)).toNat : Int)] 5)).below (below_drew _)
      have b4 := (hbel.alloc hbel.size (.cells #[.int .u8 ((Oct.dig (x.toNat / 16)).toNat : Int), .int .u8 ((Oct.dig (x.toNat % 16)).toNat : Int)] 5)).drew
      refine behind_since b4 ?_
      refine phase_op 8 1 rfl (by kernel_rfl) (by decide) ?_
      simp only [nth]
      go_wp2_with (at_builtin; refine wpList_appb etb rfl (.tmp 16) (.tmp 23) rfl rfl rfl w.heap.size o4 h4 (by omega) b4.size ?_; intro A2 c2 w5 h5 b5 _ _)
      have d5 : Below w.heap.size w w5 := b4.trans b5
      refine behind_since d5 ?_
      refine phase_later (by kernel_rfl) 0 d5 [9] rfl (by kernel_rfl) ?_
      simp only [picks, nth]
      repeat (go_big_quiet_step (fail))
      refine wpQuiet_nil ?_
      refine phase_end (by kernel_rfl) ?_
      go_wp2_with fail
      go_roundw
      case rel => exact ⟨j + 1, A2, c2, by omega, by go_num, rfl, by rw [HSN.out]; exact h5, d5⟩
      case measure => simp [intOf] <;> omega
    · obtain rfl : j = n := by omega
      have e1 := convb hown.rb
      rw [show l.take j = l by rw [List.take_of_length_le (by omega)]] at e1
      go_wp2_with fail
      go_ret
      exact ⟨rfl, hbel⟩
end Go.Proofs.YtmolmpgampmolaaGreat
/-
  Walks: the reference's Hex.
  Conditions: none.
-/
namespace Go.Proofs.YtmolmpgampmolaaGreat
set_option linter.unusedVariables false
set_option linter.unusedSimpArgs false
open Go.RowKit
theorem hexd_cut : ∀ j : Fin 16, ((⟨#[48, 49, 50, 51, 52, 53, 54, 55, 56, 57, 97, 98, 99, 100, 101, 102]⟩ : ByteArray).extract j.val (j.val + 1)).data.toList = [Oct.dig j.val] := by decide
theorem run_hexd_cut (k1 k2 : IntKind) (z1 z2 : Int) (k : Nat) (h1 : z1 = (k : Int)) (h2 : z2 = (k : Int) + 1) (hk : k < 16) (w : World) :
    (Instr.slice 9 (.string ⟨#[48, 49, 50, 51, 52, 53, 54, 55, 56, 57, 97, 98, 99, 100, 101, 102]⟩) (some (.int k1 z1)) (some (.int k2 z2)) none).run Tryz.prog w = .ok (.string ⟨#[Oct.dig k]⟩) w := by
  subst h1 h2
  have e := hexd_cut ⟨k, hk⟩
  have e3 : (⟨#[48, 49, 50, 51, 52, 53, 54, 55, 56, 57, 97, 98, 99, 100, 101, 102]⟩ : ByteArray).extract k (k + 1) = ⟨#[Oct.dig k]⟩ := by
    apply ByteArray.ext
    rw [← Array.toList_inj]
    exact e
  have hs : (⟨#[48, 49, 50, 51, 52, 53, 54, 55, 56, 57, 97, 98, 99, 100, 101, 102]⟩ : ByteArray).size = 16 := rfl
  have b1 : ∀ code, (Instr.sliceBound (.int k2 ((k : Int) + 1)) 16 code).run Tryz.prog w = .ok (k + 1) w := fun code => by
    rw [run_sliceBound w k2 _ 16 code (by omega) (by omega)]; congr 1
  have b2 : ∀ code, (Instr.sliceBound (.int k1 (k : Int)) (k + 1) code).run Tryz.prog w = .ok k w := fun code => by
    rw [run_sliceBound w k1 _ _ code (by omega) (by omega)]; congr 1
  simp [Instr.slice, run_underlying Tryz.underlying9, Instr.sliceBounds, hs, b1, b2, e3, go_sem]
theorem bytes_snoc (l : List UInt8) (x : UInt8) : ((⟨l.toArray⟩ : ByteArray) ++ (⟨#[x]⟩ : ByteArray)) = ⟨(l ++ [x]).toArray⟩ := by
  apply ByteArray.ext
  simp
set_option maxRecDepth 100000 in
set_option maxHeartbeats 1000000 in
theorem RHex_any {A : Option Addr} {n c B : Nat} {l : List UInt8} (w : World) (hb : RB w B A n c l) (hn : n ≤ 100000) :
    Calls Tryz.prog 37 #[.slice A n c] w fun e w' => e = .returned (.string ⟨(Oct.hexS l).toArray⟩) ∧ Below w.heap.size w w' := by
  have hl := hb.len
  go_enter Tryz.func37, Tryz.ntmps37
  go_wp2_with fail
  go_loopw [3, 4] (fun v i wr => ∃ (j : Nat) (t : ByteArray), j ≤ n ∧ i = .int .i64 j ∧ v = .string t ∧ t = ⟨(Oct.hexS (l.take j)).toArray⟩ ∧ Below w.heap.size w wr ∧ RB wr B A n c l) (fun _ i _ => n - (intOf i).toNat)
  case atStart => exact ⟨0, _, Nat.zero_le _, rfl, rfl, rfl, Below.refl _ _, hb⟩
  case round =>
    obtain ⟨j, t, hj, rfl, rfl, ht, hbel, hbr⟩ := hrel
    by_cases hlt : j < n
    · obtain ⟨g, o, rfl, hgB, hcl⟩ := hbr.at_ (by omega)
      have hcj := hcl j hlt
      have hx2 : (l.getD j 0).toNat < 256 := byte_lt _
      have hsn : Oct.hexS (l.take (j + 1)) = Oct.hexS (l.take j) ++ [Oct.dig ((l.getD j 0).toNat / 16), Oct.dig ((l.getD j 0).toNat % 16)] := by
        rw [← Oct.hexS_snoc]
        congr 1
        have : j < l.length := by omega
        rw [List.take_succ_eq_append_getElem this]
        simp [List.getD, this]
      have hts : t.size = 2 * j := by rw [ht]; show (Oct.hexS (l.take j)).toArray.size = _; rw [List.size_toArray, Oct.hexS_length, List.length_take, hl]; omega
      have HSN := Lib.hid hsn
      have HT := Lib.hid ht
      clear hsn hcl ht
      generalize l.getD j 0 = x at *
      have hi1 := fun w => run_hexd_cut .u8 .u8 (IntKind.u8.wrap ((x.toNat : Int) / 16)) (IntKind.u8.wrap (IntKind.u8.wrap ((x.toNat : Int) / 16) + 1)) (x.toNat / 16) (by rw [IntKind.wrap_u8]; omega) (by rw [IntKind.wrap_u8, IntKind.wrap_u8]; omega) (by omega) w
      have hi2 := fun w => run_hexd_cut .u8 .u8 ((x.toNat : Int).tmod 16) (IntKind.u8.wrap ((x.toNat : Int).tmod 16 + 1)) (x.toNat % 16) (by rw [Int.tmod_eq_emod_of_nonneg (by omega)]; omega) (by rw [IntKind.wrap_u8, Int.tmod_eq_emod_of_nonneg (by omega)]; omega) (by omega) w
      have ha1 : ∀ w, (Op.stringOp .add t ⟨#[Oct.dig (x.toNat / 16)]⟩).run Tryz.prog w = .ok (.string (t ++ ⟨#[Oct.dig (x.toNat / 16)]⟩)) w := fun w => by
        exact run_string_add_sum w _ _ (by rw [hts]; show 2 * j + 1 ≤ _; omega)
      have ha2 : ∀ w, (Op.stringOp .add (t ++ ⟨#[Oct.dig (x.toNat / 16)]⟩) ⟨#[Oct.dig (x.toNat % 16)]⟩).run Tryz.prog w = .ok (.string (t ++ ⟨#[Oct.dig (x.toNat / 16)]⟩ ++ ⟨#[Oct.dig (x.toNat % 16)]⟩)) w := fun w => by
        exact run_string_add_sum w _ _ (by rw [ByteArray.size_append', hts]; show 2 * j + 1 + 1 ≤ _; omega)
      have hfin : (t ++ (⟨#[Oct.dig (x.toNat / 16)]⟩ : ByteArray)) ++ (⟨#[Oct.dig (x.toNat % 16)]⟩ : ByteArray) = ⟨(Oct.hexS (l.take (j + 1))).toArray⟩ := by
        rw [HT.out, HSN.out, bytes_snoc, bytes_snoc, List.append_assoc]; rfl
      have HF := Lib.hid hfin
      clear hfin
      go_wp2_with fail
      go_still_tail 27, (by kernel_rfl)
      change wpList _ _ _ _ _ wr.drew
      go_wp2_with fail
      go_roundw
      case rel => exact ⟨j + 1, _, by omega, by go_num, rfl, HF.out, hbel.drew, hbr.drew⟩
      case measure => simp [intOf] <;> omega
    · obtain rfl : j = n := by omega
      have HT := Lib.hid ht
      clear ht
      go_wp2_with fail
      go_ret
      exact ⟨by rw [← List.take_of_length_le (l := l) (i := j) (by omega), ← HT.out]; rfl, hbel⟩
end Go.Proofs.YtmolmpgampmolaaGreat
/-
  Walks: the program's Unhex and the reference's.
  Conditions: none.
-/
namespace Go.Proofs.YtmolmpgampmolaaGreat
set_option linter.unusedVariables false
set_option linter.unusedSimpArgs false
open Go.RowKit
theorem run_text_at (s : List UInt8) (kd : IntKind) (z : Int) (k : Nat) (hz : z = (k : Int)) (hk : k < s.length) (w : World) :
    (Instr.index 9 (.string ⟨s.toArray⟩) (.int kd z)).run Tryz.prog w = .ok (.int .u8 ((s.getD k 0).toNat : Int)) w := by
  subst hz
  rw [run_index_string w _ _ kd _ Tryz.underlying9, dif_pos ⟨by omega, by exact Int.ofNat_lt.2 hk⟩]
  have e : ((k : Int)).toNat = k := by omega
  simp only [e]
  have e2 : (⟨s.toArray⟩ : ByteArray)[k]'(hk) = s.getD k 0 := by
    show s.toArray[k] = _
    simp [List.getD, hk]
  rw [e2]
theorem or_nibs (h k : Nat) (hh : h < 16) (hk : k < 16) : bits .or .u8 ((h : Int) * 16) (k : Int) = ((UInt8.ofNat (16 * h + k)).toNat : Int) := by
  rw [show (h : Int) * 16 = ((2 ^ 4 * h : Nat) : Int) by omega, u8_or_nat _ _ (by omega) (by omega), ← Nat.two_pow_add_eq_or_of_lt (by omega : k < 2 ^ 4), UInt8.toNat_ofNat']
  omega
set_option maxHeartbeats 1000000 in
theorem Unhex_any (s : List UInt8) (w : World) (hn : s.length ≤ 200000) :
    Calls Tryz.prog 128 #[.string ⟨s.toArray⟩] w fun e w' => ∃ A1 c1, e = .returned (.tuple #[.slice A1 (Oct.unhexS s).1.length c1, .int .i64 (Oct.unhexS s).2]) ∧ OB w' w.heap.size A1 (Oct.unhexS s).1.length c1 (Oct.unhexS s).1 ∧ Below w.heap.size w w' := by
  generalize hsp : Oct.unhexS s = sp
  have hat := fun kd z k hz hk w => run_text_at s kd z k hz hk w
  have hts : (⟨s.toArray⟩ : ByteArray).size = s.length := by show s.toArray.size = _; simp
  generalize hst : (⟨s.toArray⟩ : ByteArray) = t at *
  generalize hsl : s.length = n at *
  have HS := Lib.hid hsp
  have HL := Lib.hid hsl
  have HA := Lib.hid hat
  clear hsp hst hsl hat
  obtain ⟨m, rfl | rfl⟩ : ∃ m, n = 2 * m ∨ n = 2 * m + 1 := ⟨n / 2, by omega⟩
  · go_enter Tryz.func128, Tryz.ntmps128
    go_wp2_with (at_make; refine wpList_mkb etb rfl (.const (.int .i64 0)) (.tmp 16) rfl .i64 .i64 0 m rfl rfl (by omega) (by omega) w.heap.size (Nat.le_refl _) ?_; intro w3 h3 hb3 hz3)
    go_loopw [4, 21] (fun v i wr => ∃ (j : Nat) (A1 : Option Addr) (c1 : Nat) (l1 : List UInt8), j ≤ m ∧ i = .int .i64 j ∧ v = .slice A1 j c1 ∧ Oct.pairs (s.take (2 * j)) = some l1 ∧ OB wr w.heap.size A1 j c1 l1 ∧ Below w.heap.size w wr) (fun _ i _ => m - (intOf i).toNat)
    case atStart => exact ⟨0, _, _, [], Nat.zero_le _, rfl, rfl, rfl, h3, hb3⟩
    case round =>
      obtain ⟨j, A1, c1, l1, hj, rfl, rfl, hp, hown, hbel⟩ := hrel
      have HP := Lib.hid hp
      clear hp
      by_cases hlt : j < m
      · have hi1 := HA.out .i64 (2 * (j : Int)) (2 * j) (by omega) (by omega)
        have hi2 := HA.out .i64 (2 * (j : Int) + 1) (2 * j + 1) (by omega) (by omega)
        generalize hx : s.getD (2 * j) 0 = x at *
        generalize hy : s.getD (2 * j + 1) 0 = y at *
        have HX := Lib.hid hx
        have HY := Lib.hid hy
        clear hx hy
        have hbx := byte_lt x
        have hby := byte_lt y
        cases hnx : Oct.nib x with
        | none =>
          have HNX := Lib.hid hnx
          have HCX := Lib.hid (nibble_none x · hnx)
          have hcy : ∃ (v : Nat) (b : Bool), v < 256 ∧ ∀ w, Calls Tryz.prog 134 #[.int .u8 (y.toNat : Int)] w fun e w' => e = .returned (.tuple #[.int .u8 (v : Int), .bool b]) ∧ w = w' := by
            cases hny : Oct.nib y with
            | none => exact ⟨0, false, by omega, fun w => nibble_none y w hny⟩
            | some k => exact ⟨k, true, by have := Oct.nib_lt hny; omega, fun w => nibble_some y k w hny⟩
          obtain ⟨v, b, hv, hcy⟩ := hcy
          have HCY := Lib.hid hcy
          clear hcy hnx
          go_wp2_with fail
          refine (HCX.out _).mono ?_
          rintro e w4 ⟨rfl, rfl⟩
          go_wp2_with fail
          refine (HCY.out _).mono ?_
          rintro e w4 ⟨rfl, rfl⟩
          go_wp2_with fail
          go_ret2
          have hs := HS.out
          rw [Oct.unhexS, Oct.pairs_bad (k := j) (by rw [HL.out]; omega) (by rw [HX.out, HY.out]; exact .inl HNX.out)] at hs
          subst hs
          exact ⟨_, _, rfl, OB.none_ _ _, hbel⟩
        | some h =>
          have hh := Oct.nib_lt hnx
          have HNX := Lib.hid hnx
          have HCX := Lib.hid (nibble_some x h · hnx)
          clear hnx
          cases hny : Oct.nib y with
          | none =>
            have HNY := Lib.hid hny
            have HCY := Lib.hid (nibble_none y · hny)
            clear hny
            go_wp2_with fail
            refine (HCX.out _).mono ?_
            rintro e w4 ⟨rfl, rfl⟩
            go_wp2_with fail
            refine (HCY.out _).mono ?_
            rintro e w4 ⟨rfl, rfl⟩
            go_wp2_with fail
            go_ret2
            have hs := HS.out
            rw [Oct.unhexS, Oct.pairs_bad (k := j) (by rw [HL.out]; omega) (by rw [HX.out, HY.out]; exact .inr HNY.out)] at hs
            subst hs
            exact ⟨_, _, rfl, OB.none_ _ _, hbel⟩
          | some k =>
            have hk := Oct.nib_lt hny
            have HNY := Lib.hid hny
            have HCY := Lib.hid (nibble_some y k · hny)
            clear hny
            go_wp2_with fail
            refine (HCX.out _).mono ?_
            rintro e w4 ⟨rfl, rfl⟩
            go_wp2_with fail
            refine (HCY.out _).mono ?_
            rintro e w4 ⟨rfl, rfl⟩
            go_wp2_with (at_builtin; refine wpList_appb_one etb rfl (.tmp 47) (.tmp 52) rfl rfl rfl w.heap.size hown (UInt8.ofNat (16 * h + k)) ?hv (by omega) hbel.size ?_; rotate_left; intro A2 c2 w3 h3 hb3 _ _)
            · go_roundw
              case rel => exact ⟨j + 1, A2, c2, _, by omega, by go_num, rfl, by
                exact Oct.pairs_step (by rw [HL.out]; omega) HP.out (by rw [HX.out]; exact HNX.out) (by rw [HY.out]; exact HNY.out), h3, hbel.trans hb3⟩
              case measure => simp [intOf] <;> omega
            · exact or_nibs h k hh hk
      · obtain rfl : j = m := by omega
        go_wp2_with fail
        go_ret2
        have hs := HS.out
        have hp := HP.out
        rw [List.take_of_length_le (by rw [HL.out]; omega)] at hp
        rw [Oct.unhexS, hp] at hs
        subst hs
        have : l1.length = j := by have := Oct.pairs_length _ _ hp; rw [HL.out] at this; omega
        subst this
        exact ⟨_, _, rfl, hown, hbel⟩
  · go_enter Tryz.func128, Tryz.ntmps128
    go_wp2_with fail
    go_ret2
    have hs := HS.out
    rw [Oct.unhexS, Oct.pairs_odd _ (by rw [HL.out]; omega)] at hs
    subst hs
    exact ⟨_, _, rfl, OB.none_ _ _, Below.refl _ _⟩
theorem sum_nibs (h k : Nat) (hh : h < 16) (hk : k < 16) : 16 * (h : Int) + (k : Int) = ((UInt8.ofNat (16 * h + k)).toNat : Int) := by
  rw [UInt8.toNat_ofNat']
  omega
theorem digit_none (c : UInt8) (h : Oct.nib c = none) (w : World) : Calls Tryz.prog 114 #[.int .u8 (c.toNat : Int)] w fun e w' => e = .returned (.int .i64 (-1)) ∧ w = w' := by
  have := digit_any c w
  rw [h] at this
  exact this
theorem digit_some (c : UInt8) (k : Nat) (h : Oct.nib c = some k) (w : World) : Calls Tryz.prog 114 #[.int .u8 (c.toNat : Int)] w fun e w' => e = .returned (.int .i64 (k : Int)) ∧ w = w' := by
  have := digit_any c w
  rw [h] at this
  exact this
set_option maxHeartbeats 1000000 in
theorem RUnhex_any (s : List UInt8) (w : World) (hn : s.length ≤ 200000) :
    Calls Tryz.prog 62 #[.string ⟨s.toArray⟩] w fun e w' => ∃ A1 c1, e = .returned (.tuple #[.slice A1 (Oct.unhexS s).1.length c1, .int .i64 (Oct.unhexS s).2]) ∧ OB w' w.heap.size A1 (Oct.unhexS s).1.length c1 (Oct.unhexS s).1 ∧ Below w.heap.size w w' := by
  generalize hsp : Oct.unhexS s = sp
  have hat := fun kd z k hz hk w => run_text_at s kd z k hz hk w
  have hts : (⟨s.toArray⟩ : ByteArray).size = s.length := by show s.toArray.size = _; simp
  generalize hst : (⟨s.toArray⟩ : ByteArray) = t at *
  generalize hsl : s.length = n at *
  have HS := Lib.hid hsp
  have HL := Lib.hid hsl
  have HA := Lib.hid hat
  clear hsp hst hsl hat
  obtain ⟨m, rfl | rfl⟩ : ∃ m, n = 2 * m ∨ n = 2 * m + 1 := ⟨n / 2, by omega⟩
  · go_enter Tryz.func62, Tryz.ntmps62
    go_wp2_with fail
    go_loopw [4, 5] (fun v i wr => ∃ (j : Nat) (A1 : Option Addr) (c1 : Nat) (l1 : List UInt8), j ≤ m ∧ i = .int .i64 (2 * (j : Int)) ∧ v = .slice A1 j c1 ∧ Oct.pairs (s.take (2 * j)) = some l1 ∧ OB wr w.heap.size A1 j c1 l1 ∧ Below w.heap.size w wr) (fun _ i _ => 2 * m - (intOf i).toNat)
    case atStart => exact ⟨0, none, 0, [], Nat.zero_le _, rfl, rfl, rfl, OB.none_ _ _, Below.refl _ _⟩
    case round =>
      obtain ⟨j, A1, c1, l1, hj, rfl, rfl, hp, hown, hbel⟩ := hrel
      have HP := Lib.hid hp
      clear hp
      by_cases hlt : j < m
      · have hi1 := HA.out .i64 (2 * (j : Int)) (2 * j) (by omega) (by omega)
        have hi2 := HA.out .i64 (2 * (j : Int) + 1) (2 * j + 1) (by omega) (by omega)
        generalize hx : s.getD (2 * j) 0 = x at *
        generalize hy : s.getD (2 * j + 1) 0 = y at *
        have HX := Lib.hid hx
        have HY := Lib.hid hy
        clear hx hy
        have hbx := byte_lt x
        have hby := byte_lt y
        cases hnx : Oct.nib x with
        | none =>
          have HNX := Lib.hid hnx
          have HCX := Lib.hid (digit_none x hnx)
          have hcy : ∃ v : Int, ∀ w, Calls Tryz.prog 114 #[.int .u8 (y.toNat : Int)] w fun e w' => e = .returned (.int .i64 v) ∧ w = w' := ⟨_, fun w => digit_any y w⟩
          obtain ⟨v, hcy⟩ := hcy
          have HCY := Lib.hid hcy
          clear hcy hnx
          go_wp2_with fail
          refine (HCX.out _).mono ?_
          rintro e w4 ⟨rfl, rfl⟩
          go_wp2_with fail
          refine (HCY.out _).mono ?_
          rintro e w4 ⟨rfl, rfl⟩
          go_wp2_with fail
          go_ret2
          have hs := HS.out
          rw [Oct.unhexS, Oct.pairs_bad (k := j) (by rw [HL.out]; omega) (by rw [HX.out, HY.out]; exact .inl HNX.out)] at hs
          subst hs
          exact ⟨_, _, rfl, OB.none_ _ _, hbel⟩
        | some h =>
          have hh := Oct.nib_lt hnx
          have HNX := Lib.hid hnx
          have HCX := Lib.hid (digit_some x h hnx)
          clear hnx
          cases hny : Oct.nib y with
          | none =>
            have HNY := Lib.hid hny
            have HCY := Lib.hid (digit_none y hny)
            clear hny
            go_wp2_with fail
            refine (HCX.out _).mono ?_
            rintro e w4 ⟨rfl, rfl⟩
            go_wp2_with fail
            refine (HCY.out _).mono ?_
            rintro e w4 ⟨rfl, rfl⟩
            go_wp2_with fail
            go_ret2
            have hs := HS.out
            rw [Oct.unhexS, Oct.pairs_bad (k := j) (by rw [HL.out]; omega) (by rw [HX.out, HY.out]; exact .inr HNY.out)] at hs
            subst hs
            exact ⟨_, _, rfl, OB.none_ _ _, hbel⟩
          | some k =>
            have hk := Oct.nib_lt hny
            have HNY := Lib.hid hny
            have HCY := Lib.hid (digit_some y k hny)
            clear hny
            go_wp2_with fail
            refine (HCX.out _).mono ?_
            rintro e w4 ⟨rfl, rfl⟩
            go_wp2_with fail
            refine (HCY.out _).mono ?_
            rintro e w4 ⟨rfl, rfl⟩
            go_wp2_with (at_builtin; refine wpList_appb_one etb rfl (.tmp 33) (.tmp 39) rfl rfl rfl w.heap.size hown (UInt8.ofNat (16 * h + k)) ?hv (by omega) hbel.size ?_; rotate_left; intro A2 c2 w3 h3 hb3 _ _)
            · go_roundw
              case rel => exact ⟨j + 1, A2, c2, _, by omega, by go_num, rfl, by
                exact Oct.pairs_step (by rw [HL.out]; omega) HP.out (by rw [HX.out]; exact HNX.out) (by rw [HY.out]; exact HNY.out), h3, hbel.trans hb3⟩
              case measure => simp [intOf] <;> omega
            · exact sum_nibs h k hh hk
      · obtain rfl : j = m := by omega
        go_wp2_with fail
        go_ret2
        have hs := HS.out
        have hp := HP.out
        rw [List.take_of_length_le (by rw [HL.out]; omega)] at hp
        rw [Oct.unhexS, hp] at hs
        subst hs
        have : l1.length = j := by have := Oct.pairs_length _ _ hp; rw [HL.out] at this; omega
        subst this
        exact ⟨_, _, rfl, hown, hbel⟩
  · go_enter Tryz.func62, Tryz.ntmps62
    go_wp2_with fail
    go_ret2
    have hs := HS.out
    rw [Oct.unhexS, Oct.pairs_odd _ (by rw [HL.out]; omega)] at hs
    subst hs
    exact ⟨_, _, rfl, OB.none_ _ _, Below.refl _ _⟩
end Go.Proofs.YtmolmpgampmolaaGreat
