/-
  Walks: the reference's Hex.
  Conditions: none.
-/
import Derived.Test.YtfmfcgpofkccgaaOctHex
import Derived.Laws.Concat
import Derived.StillTailTactics
namespace Go.Proofs.Ytfmfcgpofkccgaa
set_option linter.unusedVariables false
set_option linter.unusedSimpArgs false
open Go.RowKit
theorem hexd_cut : ∀ j : Fin 16, ((⟨#[48, 49, 50, 51, 52, 53, 54, 55, 56, 57, 97, 98, 99, 100, 101, 102]⟩ : ByteArray).extract j.val (j.val + 1)).data.toList = [Oct.dig j.val] := by decide
theorem run_hexd_cut (k1 k2 : IntKind) (z1 z2 : Int) (k : Nat) (h1 : z1 = (k : Int)) (h2 : z2 = (k : Int) + 1) (hk : k < 16) (w : World) :
    (Instr.slice 9 (.string ⟨#[48, 49, 50, 51, 52, 53, 54, 55, 56, 57, 97, 98, 99, 100, 101, 102]⟩) (some (.int k1 z1)) (some (.int k2 z2)) none).run Try.prog w = .ok (.string ⟨#[Oct.dig k]⟩) w := by
  subst h1 h2
  have e := hexd_cut ⟨k, hk⟩
  have e3 : (⟨#[48, 49, 50, 51, 52, 53, 54, 55, 56, 57, 97, 98, 99, 100, 101, 102]⟩ : ByteArray).extract k (k + 1) = ⟨#[Oct.dig k]⟩ := by
    apply ByteArray.ext
    rw [← Array.toList_inj]
    exact e
  have hs : (⟨#[48, 49, 50, 51, 52, 53, 54, 55, 56, 57, 97, 98, 99, 100, 101, 102]⟩ : ByteArray).size = 16 := rfl
  have b1 : ∀ code, (Instr.sliceBound (.int k2 ((k : Int) + 1)) 16 code).run Try.prog w = .ok (k + 1) w := fun code => by
    rw [run_sliceBound w k2 _ 16 code (by omega) (by omega)]; congr 1
  have b2 : ∀ code, (Instr.sliceBound (.int k1 (k : Int)) (k + 1) code).run Try.prog w = .ok k w := fun code => by
    rw [run_sliceBound w k1 _ _ code (by omega) (by omega)]; congr 1
  simp [Instr.slice, run_underlying Try.underlying9, Instr.sliceBounds, hs, b1, b2, e3, go_sem]
theorem bytes_snoc (l : List UInt8) (x : UInt8) : ((⟨l.toArray⟩ : ByteArray) ++ (⟨#[x]⟩ : ByteArray)) = ⟨(l ++ [x]).toArray⟩ := by
  apply ByteArray.ext
  simp
set_option maxHeartbeats 1000000 in
theorem RHex_any {A : Option Addr} {n c B : Nat} {l : List UInt8} (w : World) (hb : RB w B A n c l) (hn : n ≤ 100000) :
    Calls Try.prog 51 #[.slice A n c] w fun e w' => e = .returned (.string ⟨(Oct.hexS l).toArray⟩) ∧ Below w.heap.size w w' := by
  have hl := hb.len
  go_enter Try.func51, Try.ntmps51
  go_wp2_with fail
  go_loopw [3, 4] (fun v i wr => ∃ (j : Nat) (t : ByteArray), j ≤ n ∧ i = .int .i64 j ∧ v = .string t ∧ t = ⟨(Oct.hexS (l.take j)).toArray⟩ ∧ Below w.heap.size w wr ∧ RB wr B A n c l) (fun _ i _ => n - (intOf i).toNat)
  case atStart => exact ⟨0, _, Nat.zero_le _, rfl, rfl, rfl, Below.refl _ _, hb⟩
  case round =>
    obtain ⟨j, t, hj, rfl, rfl, ht, hbel, hbr⟩ := hrel
    by_cases hlt : j < n
    · obtain ⟨g, o, rfl, hgB, hcl⟩ := hbr.at_ (by omega)
      have hcj := hcl j hlt
      have hx2 : (l.getD j 0).toNat < 256 := byte_lt _
      have hsn : Oct.hexS (l.take (j + 1)) = Oct.hexS (l.take j) ++ [Oct.dig ((l.getD j 0).toNat / 16), Oct.dig ((l.getD j 0).toNat % 16)] := by
        rw [← Oct.hexS_snoc]
        congr 1
        have : j < l.length := by omega
        rw [List.take_succ_eq_append_getElem this]
        simp [List.getD, this]
      have hts : t.size = 2 * j := by rw [ht]; show (Oct.hexS (l.take j)).toArray.size = _; rw [List.size_toArray, Oct.hexS_length, List.length_take, hl]; omega
      have HSN := Lib.hid hsn
      have HT := Lib.hid ht
      clear hsn hcl ht
      generalize l.getD j 0 = x at *
      have hi1 := fun w => run_hexd_cut .u8 .u8 (IntKind.u8.wrap ((x.toNat : Int) / 16)) (IntKind.u8.wrap (IntKind.u8.wrap ((x.toNat : Int) / 16) + 1)) (x.toNat / 16) (by rw [IntKind.wrap_u8]; omega) (by rw [IntKind.wrap_u8, IntKind.wrap_u8]; omega) (by omega) w
      have hi2 := fun w => run_hexd_cut .u8 .u8 ((x.toNat : Int).tmod 16) (IntKind.u8.wrap ((x.toNat : Int).tmod 16 + 1)) (x.toNat % 16) (by rw [Int.tmod_eq_emod_of_nonneg (by omega)]; omega) (by rw [IntKind.wrap_u8, Int.tmod_eq_emod_of_nonneg (by omega)]; omega) (by omega) w
      have ha1 : ∀ w, (Op.stringOp .add t ⟨#[Oct.dig (x.toNat / 16)]⟩).run Try.prog w = .ok (.string (t ++ ⟨#[Oct.dig (x.toNat / 16)]⟩)) w := fun w => by
        exact run_string_add_sum w _ _ (by rw [hts]; show 2 * j + 1 ≤ _; omega)
      have ha2 : ∀ w, (Op.stringOp .add (t ++ ⟨#[Oct.dig (x.toNat / 16)]⟩) ⟨#[Oct.dig (x.toNat % 16)]⟩).run Try.prog w = .ok (.string (t ++ ⟨#[Oct.dig (x.toNat / 16)]⟩ ++ ⟨#[Oct.dig (x.toNat % 16)]⟩)) w := fun w => by
        exact run_string_add_sum w _ _ (by rw [ByteArray.size_append', hts]; show 2 * j + 1 + 1 ≤ _; omega)
      have hfin : (t ++ (⟨#[Oct.dig (x.toNat / 16)]⟩ : ByteArray)) ++ (⟨#[Oct.dig (x.toNat % 16)]⟩ : ByteArray) = ⟨(Oct.hexS (l.take (j + 1))).toArray⟩ := by
        rw [HT.out, HSN.out, bytes_snoc, bytes_snoc, List.append_assoc]; rfl
      have HF := Lib.hid hfin
      clear hfin
      go_wp2_with fail
      go_still_tail 27, (by kernel_rfl)
      change wpList _ _ _ _ _ wr.drew
      go_wp2_with fail
      go_roundw
      case rel => exact ⟨j + 1, _, by omega, by go_num, rfl, HF.out, hbel.drew, hbr.drew⟩
      case measure => simp [intOf] <;> omega
    · obtain rfl : j = n := by omega
      have HT := Lib.hid ht
      clear ht
      go_wp2_with fail
      go_ret
      exact ⟨by rw [← List.take_of_length_le (l := l) (i := j) (by omega), ← HT.out]; rfl, hbel⟩
end Go.Proofs.Ytfmfcgpofkccgaa
