/-
  Walks: types.quote, unquote, the reference's text.
  Conditions: none.
-/
import Derived.Test.YtfmfcgpofkccgaaTypPure
import Derived.Test.YtfmfcgpofkccgaaText
import Derived.Test.YtfmfcgpofkccgaaBlk
namespace Go.Proofs.Ytfmfcgpofkccgaa
set_option linter.unusedVariables false
set_option linter.unusedSimpArgs false
open Go.RowKit
theorem esc_append (a b : List UInt8) : Ty.esc (a ++ b) = Ty.esc a ++ Ty.esc b := by unfold Ty.esc; exact List.flatMap_append
theorem esc_one (x : UInt8) : Ty.esc [x] = if Ty.mark x = true then [92, x] else [x] := by simp [Ty.esc]
theorem esc_snoc {l : List UInt8} {k : Nat} (hk : k < l.length) : Ty.esc (l.take (k + 1)) = Ty.esc (l.take k) ++ (if Ty.mark (l.getD k 0) = true then [92, l.getD k 0] else [l.getD k 0]) := by
  rw [List.take_succ_eq_append_getElem hk, esc_append, esc_one, show l.getD k 0 = l[k] by simp [List.getD, hk]]
theorem esc_len : ∀ (l : List UInt8), (Ty.esc l).length ≤ 2 * l.length
  | [] => by simp [Ty.esc]
  | c :: l => by
    have := esc_len l
    rw [show c :: l = [c] ++ l from rfl, esc_append, esc_one, List.length_append, List.length_append]
    generalize (Ty.esc l).length = m at *
    split <;> simp <;> omega
theorem quo_len (l : List UInt8) : (Ty.quo l).length ≤ 2 * l.length + 2 := by
  have := esc_len l
  unfold Ty.quo
  simp
  omega
set_option maxRecDepth 100000 in
set_option maxHeartbeats 4000000 in
theorem quote_any {A : Option Addr} {n c B : Nat} {l : List UInt8} (w : World) (hb : RB w B A n c l) (hn : n ≤ 1000000) (hB : B ≤ w.heap.size) : Calls Try.prog 48 #[.slice A n c] w fun e w' => e = .returned (.string (T (Ty.quo l))) ∧ Below w.heap.size w w' := by
  have hl := hb.len
  have HL := Lib.hid hl
  have o0 := OB.new (base := w.heap.size) w [34] 1 rfl (by omega) (Nat.le_refl _)
  have b0 := alloc_one w (.cells #[.int .u8 34] 5)
  clear hl
  go_enter Try.func48, Try.ntmps48
  go_wp2_with fail
  go_loopw [3, 9] (fun v i wr => ∃ (k m : Nat) (A1 : Option Addr) (c1 : Nat), k ≤ n ∧ i = .int .i64 k ∧ v = .slice A1 m c1 ∧ m ≤ 2 * k + 1 ∧ OB wr w.heap.size A1 m c1 (34 :: Ty.esc (l.take k)) ∧ Below w.heap.size w wr) (fun _ i _ => n - (intOf i).toNat)
  case atStart => exact ⟨0, 1, _, _, by omega, rfl, rfl, by omega, o0, b0⟩
  case round =>
    clear o0 b0
    obtain ⟨k, m, A1, c1, hk, rfl, rfl, hm, ob, bb⟩ := hrel
    have hz := bb.size
    by_cases hlt : k < n
    · obtain ⟨b, o, rfl, hbB, hc⟩ := (hb.below (bb.mono hB)).at_ (show 0 < n by omega)
      have hck := hc k hlt
      have hx := byte_lt (l.getD k 0)
      have hes := esc_snoc (l := l) (k := k) (by have := HL.out; omega)
      generalize l.getD k 0 = x at *
      have HES := Lib.hid hes
      clear hc hes
      by_cases hmk : Ty.mark x = true
      · have hes2 := HES.out
        rw [if_pos hmk] at hes2
        have HE2 := Lib.hid hes2
        have h3 : x.toNat = 34 ∨ (x.toNat ≠ 34 ∧ x.toNat = 92) := by
          unfold Ty.mark at hmk
          simp only [Bool.or_eq_true, beq_iff_eq] at hmk
          rcases hmk with rfl | rfl
          · exact .inl rfl
          · exact .inr ⟨by decide, rfl⟩
        clear hes2 hmk HES
        rcases h3 with h3 | ⟨h3, h4⟩
        · have e1 : ((x.toNat : Int) == 34) = true := by rw [h3]; rfl
          clear h3
          go_wp2_with (first
            | (at_builtin; refine wpList_appb_one etb rfl (.tmp 19) (.tmp 20) rfl rfl rfl w.heap.size ob 92 rfl (by omega) hz ?_; intro A2 c2 w2 o2 b2 _ _; have hz2 := Nat.le_trans hz b2.size; have q2 := (hb.below ((bb.trans b2).mono hB)))
            | (at_builtin; refine wpList_appb_one etb rfl (.tmp 22) (.tmp 24) rfl rfl rfl w.heap.size o2 x rfl (by omega) hz2 ?_; intro A3 c3 w3 o3 b3 _ _))
          go_roundw
          case rel => exact ⟨k + 1, m + 1 + 1, A3, c3, by omega, by go_num, rfl, by omega, by rw [HE2.out]; simpa using o3, (bb.trans b2).trans b3⟩
          case measure => simp [intOf] <;> omega
        · have e1 : ((x.toNat : Int) == 34) = false := by rw [beq_eq_false_iff_ne]; omega
          have e2 : ((x.toNat : Int) == 92) = true := by rw [h4]; rfl
          clear h3 h4
          go_wp2_with (first
            | (at_builtin; refine wpList_appb_one etb rfl (.tmp 19) (.tmp 20) rfl rfl rfl w.heap.size ob 92 rfl (by omega) hz ?_; intro A2 c2 w2 o2 b2 _ _; have hz2 := Nat.le_trans hz b2.size)
            | (at_builtin; refine wpList_appb_one etb rfl (.tmp 22) (.tmp 24) rfl rfl rfl w.heap.size o2 x rfl (by omega) hz2 ?_; intro A3 c3 w3 o3 b3 _ _))
          go_roundw
          case rel => exact ⟨k + 1, m + 1 + 1, A3, c3, by omega, by go_num, rfl, by omega, by rw [HE2.out]; simpa using o3, (bb.trans b2).trans b3⟩
          case measure => simp [intOf] <;> omega
      · have hes2 := HES.out
        rw [if_neg hmk] at hes2
        have HE2 := Lib.hid hes2
        have h3 : x.toNat ≠ 34 ∧ x.toNat ≠ 92 := by
          refine ⟨fun h => hmk ?_, fun h => hmk ?_⟩
          · have : x = 34 := UInt8.toNat_inj.1 h
            rw [this]; rfl
          · have : x = 92 := UInt8.toNat_inj.1 h
            rw [this]; rfl
        have e1 : ((x.toNat : Int) == 34) = false := by rw [beq_eq_false_iff_ne]; omega
        have e2 : ((x.toNat : Int) == 92) = false := by rw [beq_eq_false_iff_ne]; omega
        clear hes2 hmk h3 HES
        go_wp2_with (at_builtin; refine wpList_appb_one etb rfl (.tmp 22) (.tmp 24) rfl rfl rfl w.heap.size ob x rfl (by omega) hz ?_; intro A3 c3 w3 o3 b3 _ _)
        go_roundw
        case rel => exact ⟨k + 1, m + 1, A3, c3, by omega, by go_num, rfl, by omega, by rw [HE2.out]; simpa using o3, bb.trans b3⟩
        case measure => simp [intOf] <;> omega
    · obtain rfl : k = n := by omega
      have htk : l.take k = l := List.take_of_length_le (by have := HL.out; omega)
      rw [htk] at ob
      have HQ := Lib.hid (show (34 :: Ty.esc l) ++ [34] = Ty.quo l from rfl)
      clear htk
      go_wp2_with (at_builtin; refine wpList_appb_one etb rfl (.tmp 27) (.tmp 28) rfl rfl rfl w.heap.size ob 34 rfl (by omega) hz ?_; intro A3 c3 w3 o3 b3 _ _; have e3 := convb o3.rb)
      go_ret
      exact ⟨by rw [← HQ.out]; rfl, bb.trans b3⟩
end Go.Proofs.Ytfmfcgpofkccgaa
