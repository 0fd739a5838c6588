/-
  Walk: the reference's Number.
  Conditions: none.
-/
import Derived.Test.YtfmfcgpofkccgaaTypDig
namespace Go.Proofs.Ytfmfcgpofkccgaa
set_option linter.unusedVariables false
set_option linter.unusedSimpArgs false
open Go.RowKit
theorem decd_cut : ∀ j : Fin 10, ((⟨#[48, 49, 50, 51, 52, 53, 54, 55, 56, 57]⟩ : ByteArray).extract j.val (j.val + 1)).data.toList = [Ty.dgt j.val] := by decide
theorem run_decd_cut (k1 k2 : IntKind) (z1 z2 : Int) (k : Nat) (h1 : z1 = (k : Int)) (h2 : z2 = (k : Int) + 1) (hk : k < 10) (w : World) :
    (Instr.slice 9 (.string ⟨#[48, 49, 50, 51, 52, 53, 54, 55, 56, 57]⟩) (some (.int k1 z1)) (some (.int k2 z2)) none).run Try.prog w = .ok (.string (T [Ty.dgt k])) w := by
  have e := run_T_cut [48, 49, 50, 51, 52, 53, 54, 55, 56, 57] k1 k2 z1 z2 k (k + 1) h1 (by omega) (by omega) (by simp; omega) (by decide) w
  have e2 : (List.take (k + 1) [48, 49, 50, 51, 52, 53, 54, 55, 56, 57]).drop k = [Ty.dgt k] := by
    have := decd_cut ⟨k, hk⟩
    have h3 : (T [48, 49, 50, 51, 52, 53, 54, 55, 56, 57]).extract k (k + 1) = T ((List.take (k + 1) [48, 49, 50, 51, 52, 53, 54, 55, 56, 57]).drop k) := T_extract _ _ _
    have h4 : ((T [48, 49, 50, 51, 52, 53, 54, 55, 56, 57]).extract k (k + 1)).data.toList = [Ty.dgt k] := this
    rw [h3] at h4
    simpa [T] using h4
  rw [e2] at e
  exact e
/-- The number of a slot. -/
def absOf : Value → Nat
  | .int _ z => z.natAbs
  | _ => 0
theorem num_next {a M N : Nat} {s : List UInt8} (h0 : M ≠ 0) (hlt : M < 10 ^ a) (h : Ty.decF 20 N = (if M = 0 then [] else Ty.decF a M) ++ s) : ∃ b, M / 10 < 10 ^ b ∧ Ty.decF 20 N = (if M / 10 = 0 then [] else Ty.decF b (M / 10)) ++ (Ty.dgt (M % 10) :: s) := by
  rw [if_neg h0] at h
  cases a with
  | zero => simp at hlt; omega
  | succ b =>
    refine ⟨b, by rw [Nat.pow_succ] at hlt; omega, ?_⟩
    rw [h, Ty.decF]
    simp
set_option maxRecDepth 100000 in
set_option maxHeartbeats 4000000 in
theorem RNumber_any (n : Int) (w : World) (h1 : -9223372036854775808 ≤ n) (h2 : n ≤ 9223372036854775807) : Calls Try.prog 50 #[.int .i64 n] w fun e w' => e = .returned (.string (T (Ty.numT n))) ∧ w = w' := by
  by_cases h0 : n = 0
  · subst h0
    go_enter Try.func50, Try.ntmps50
    go_wp2_with fail
    go_ret
    exact ⟨rfl, rfl⟩
  · have hz : (n == 0) = false := by rw [beq_eq_false_iff_ne]; exact h0
    have hT : Ty.numT n = if n < 0 then 45 :: Ty.decF 20 n.natAbs else Ty.decF 20 n.natAbs := rfl
    have hN2 : n.natAbs ≤ 9223372036854775808 := by omega
    have hN0 : n.natAbs ≠ 0 := by omega
    have ha := fun (D : Nat) (s : List UInt8) (hs : s.length ≤ 100) w => run_T_add [Ty.dgt D] s (by simp; omega) w
    have hm := fun (s : List UInt8) (hs : s.length ≤ 100) w => run_T_add [45] s (by simp; omega) w
    have HA := Lib.hid ha; have HM := Lib.hid hm
    by_cases hn : n < 0
    · obtain ⟨N, rfl⟩ : ∃ N : Nat, n = -(N : Int) := ⟨n.natAbs, by omega⟩
      rw [if_pos hn, show (-(N : Int)).natAbs = N by omega] at hT
      rw [show (-(N : Int)).natAbs = N by omega] at hN0 hN2
      have HT := Lib.hid hT
      clear hT h0 ha hm
      go_enter Try.func50, Try.ntmps50
      go_wp2_with fail
      go_loop [3, 4] (fun v m => ∃ (a M : Nat) (s : List UInt8), M ≤ N ∧ v = .string (T s) ∧ m = .int .i64 (-(M : Int)) ∧ M < 10 ^ a ∧ s.length ≤ 20 ∧ Ty.decF 20 N = (if M = 0 then [] else Ty.decF a M) ++ s) (fun _ m => absOf m)
      case atStart => exact ⟨20, N, [], Nat.le_refl _, rfl, rfl, Nat.lt_of_le_of_lt hN2 (by decide), by simp, by rw [if_neg hN0]; simp⟩
      case round =>
        obtain ⟨a, M, s, hM, rfl, rfl, hlt, hsl, hd⟩ := hrel
        have HD := Lib.hid hd; have HLT := Lib.hid hlt; clear hd hlt
        by_cases hM0 : M = 0
        · subst hM0
          have hq : Ty.decF 20 N = s := by rw [HD.out, if_pos rfl]; rfl
          have HQ := Lib.hid hq; clear hq
          have hm : ∀ w, (Op.stringOp .add (⟨#[45]⟩ : ByteArray) (T s)).run Try.prog w = .ok (.string (T (45 :: s))) w := HM.out s (by omega)
          have e0 : ((-((0 : Nat) : Int)) != 0) = false := by decide
          go_wp2_with fail
          go_ret
          exact ⟨by rw [HT.out, HQ.out]; rfl, rfl⟩
        · obtain ⟨b, hb1, hb2⟩ := num_next hM0 HLT.out HD.out
          have hsl2 : (Ty.dgt (M % 10) :: s).length ≤ 20 := by
            have := Ty.decF_len 20 N
            rw [hb2, List.length_append] at this
            omega
          have e1 : (-(M : Int)).tmod 10 = -((M % 10 : Nat) : Int) := by rw [Int.neg_tmod]; rfl
          have e2 : (-(M : Int)).tdiv 10 = -((M / 10 : Nat) : Int) := by rw [Int.neg_tdiv]; rfl
          have e0 : (-(M : Int) != 0) = true := by rw [bne_iff_ne]; omega
          have hlt10 : M % 10 < 10 := Nat.mod_lt _ (by decide)
          have hle : M / 10 < M := by omega
          have HB1 := Lib.hid hb1; have HB2 := Lib.hid hb2; have HM0 := Lib.hid hM0
          clear hb1 hb2 hM0
          generalize M % 10 = D at *
          generalize M / 10 = M' at *
          have hc := fun w => run_decd_cut .i64 .i64 (D : Int) ((D : Int) + 1) D rfl rfl hlt10 w
          have ha := HA.out D s (by omega)
          rcases (show D = 0 ∨ 0 < D by omega) with h | h
          · subst h
            have hc0 : ∀ w, (Instr.slice 9 (.string ⟨#[48, 49, 50, 51, 52, 53, 54, 55, 56, 57]⟩) (some (.int .i64 0)) (some (.int .i64 1)) none).run Try.prog w = .ok (.string (T [Ty.dgt 0])) w := fun w => run_decd_cut .i64 .i64 0 1 0 rfl rfl (by decide) w
            have e3 : (-(M : Int)).tmod 10 = 0 := by rw [e1]; rfl
            clear e1 hc
            go_wp2_with fail
            go_round
            case rel => exact ⟨b, M', _, by omega, rfl, rfl, HB1.out, hsl2, HB2.out⟩
            case measure => simp [absOf] <;> omega
          · go_wp2_with fail
            go_round
            case rel => exact ⟨b, M', _, by omega, rfl, rfl, HB1.out, hsl2, HB2.out⟩
            case measure => simp [absOf] <;> omega
    · obtain ⟨N, rfl⟩ : ∃ N : Nat, n = (N : Int) := ⟨n.natAbs, by omega⟩
      rw [if_neg hn, show ((N : Int)).natAbs = N by omega] at hT
      rw [show ((N : Int)).natAbs = N by omega] at hN0 hN2
      have HT := Lib.hid hT
      clear hT h0 ha hm
      go_enter Try.func50, Try.ntmps50
      go_wp2_with fail
      go_loop [3, 4] (fun v m => ∃ (a M : Nat) (s : List UInt8), M ≤ N ∧ v = .string (T s) ∧ m = .int .i64 (M : Int) ∧ M < 10 ^ a ∧ s.length ≤ 20 ∧ Ty.decF 20 N = (if M = 0 then [] else Ty.decF a M) ++ s) (fun _ m => absOf m)
      case atStart => exact ⟨20, N, [], Nat.le_refl _, rfl, rfl, Nat.lt_of_le_of_lt hN2 (by decide), by simp, by rw [if_neg hN0]; simp⟩
      case round =>
        obtain ⟨a, M, s, hM, rfl, rfl, hlt, hsl, hd⟩ := hrel
        have HD := Lib.hid hd; have HLT := Lib.hid hlt; clear hd hlt
        by_cases hM0 : M = 0
        · subst hM0
          have hq : Ty.decF 20 N = s := by rw [HD.out, if_pos rfl]; rfl
          have HQ := Lib.hid hq; clear hq
          go_wp2_with fail
          go_ret
          exact ⟨by rw [HT.out, HQ.out]; rfl, rfl⟩
        · obtain ⟨b, hb1, hb2⟩ := num_next hM0 HLT.out HD.out
          have hsl2 : (Ty.dgt (M % 10) :: s).length ≤ 20 := by
            have := Ty.decF_len 20 N
            rw [hb2, List.length_append] at this
            omega
          have e0 : ((M : Int) != 0) = true := by rw [bne_iff_ne]; omega
          have hlt10 : M % 10 < 10 := Nat.mod_lt _ (by decide)
          have hle : M / 10 < M := by omega
          have hc := fun w => run_decd_cut .i64 .i64 ((M : Int) % 10) ((M : Int) % 10 + 1) (M % 10) (by omega) (by omega) hlt10 w
          have ha := HA.out (M % 10) s (by omega)
          have HB1 := Lib.hid hb1; have HB2 := Lib.hid hb2; have HM0 := Lib.hid hM0
          clear hb1 hb2 hM0
          go_wp2_with fail
          go_round
          case rel => exact ⟨b, M / 10, _, by omega, rfl, by go_num, HB1.out, hsl2, HB2.out⟩
          case measure => simp [absOf] <;> omega
end Go.Proofs.Ytfmfcgpofkccgaa
