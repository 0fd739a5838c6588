/-
  Walks: types.digits, the reference's Number.
  Conditions: none.
-/
import Derived.Test.YtfmfcgpofkccgaaTypPure
import Derived.Test.YtfmfcgpofkccgaaText
import Derived.Test.YtfmfcgpofkccgaaBlk
import Derived.Test.YtfmfcgpofkccgaaFoot
import Derived.KernelRfl
namespace Go.Proofs.Ytfmfcgpofkccgaa
set_option linter.unusedVariables false
set_option linter.unusedSimpArgs false
open Go.RowKit
/-- The cells of a row of 20 from a on are the bytes s. -/
structure Tail (w : World) (g : Nat) (a : Nat) (s : List UInt8) : Prop where
  le : a ≤ 20
  len : s.length = 20 - a
  row : ∃ cs, Blk w g 75 cs ∧ cs.size = 20 ∧ ∀ i, i < 20 - a → cs[a + i]? = some (bv (s.getD i 0))
theorem Tail.step {w : World} {g a : Nat} {s : List UInt8} (h : Tail w g (a + 1) s) (x : UInt8) {v : Int} (hv : v = (x.toNat : Int)) : Tail (w.setCell ⟨g, a, none⟩ (.int .u8 v)) g a (x :: s) := by
  obtain ⟨h1, h2, cs, hb, hs, hc⟩ := h
  subst hv
  refine ⟨by omega, by simp [h2]; omega, _, hb.set_ a _, by simpa using hs, fun i hi => ?_⟩
  rw [Array.getElem?_setIfInBounds]
  cases i with
  | zero => rw [if_pos (by omega), if_pos (by omega)]; rfl
  | succ i =>
    rw [if_neg (by omega)]
    have := hc i (by omega)
    rw [show a + (i + 1) = a + 1 + i by omega, this]
    rfl
theorem Tail.rb {w : World} {g a : Nat} {s : List UInt8} (h : Tail w g a s) : RB w w.heap.size (some ⟨g, a, none⟩) (20 - a) (20 - a) s := by
  obtain ⟨h1, h2, cs, hb, hs, hc⟩ := h
  refine ⟨h2, Nat.le_refl _, by omega, (fun e => by cases e), fun hk => ⟨g, a, rfl, hb.lt, fun i hi => ?_⟩⟩
  rw [hb.cell]
  exact hc i hi
theorem Tail.cell {w : World} {g a : Nat} {s : List UInt8} (h : Tail w g (a + 1) s) : (∃ u, w.cell? ⟨g, a, none⟩ = some u) ∧ w.frozen? ⟨g, a, none⟩ = false ∧ g < w.heap.size := by
  obtain ⟨h1, h2, cs, hb, hs, hc⟩ := h
  refine ⟨⟨cs[a]'(by omega), ?_⟩, hb.frozen _, hb.lt⟩
  rw [hb.cell, Array.getElem?_eq_getElem]
theorem run_arr_rest (g a : Nat) (ha : a < 20) {z : Int} (hz : z = (a : Int)) (w : World) : (Instr.sliceAt 75 (.pointer (some ⟨g, 0, none⟩)) (some (.int .i64 z)) none none).run Try.prog w = .ok (.slice (some ⟨g, a, none⟩) (20 - a) (20 - a)) w := by
  subst hz
  have hl : Try.prog.arrayLen 75 = 20 := by kernel_rfl
  have he : Try.prog.elem 75 = 5 := by kernel_rfl
  have ht : Try.prog.underlying 75 = some (.array (Try.prog.arrayLen 75) (Try.prog.elem 75)) := by rw [hl, he]; exact Try.underlying75
  rw [run_sliceAt_array_l w _ _ ht .i64 (a : Int) (by omega) (by rw [hl]; omega), hl, he]
  have hs : (sizeOf 5).run Try.prog w = .ok 1 w := run_sizeOf etb w
  rw [hs]
  simp only [Result.andThen, slicedAt, Int.toNat_natCast, if_neg (show ¬ 20 = a by omega), Addr.add_lit, Nat.mul_one, Nat.zero_add]
theorem Tail.fresh {w : World} {g a : Nat} {s : List UInt8} (h : Tail w g a s) : RB w (g + 1) (some ⟨g, a, none⟩) (20 - a) (20 - a) s := by
  obtain ⟨h1, h2, cs, hb, hs, hc⟩ := h
  refine ⟨h2, Nat.le_refl _, by omega, (fun e => by cases e), fun hk => ⟨g, a, rfl, by omega, fun i hi => ?_⟩⟩
  rw [hb.cell]
  exact hc i hi
theorem decF_short : ∀ (j k N : Nat), 1 ≤ j → N < 10 ^ j → (Ty.decF k N).length ≤ j
  | _, 0, _, _, _ => by simp [Ty.decF]
  | j, k + 1, N, hj, h => by
    rw [Ty.decF, List.length_append]
    split
    · simp; omega
    · rename_i h0
      obtain ⟨j, rfl⟩ : ∃ i, j = i + 1 := ⟨j - 1, by omega⟩
      have h1 : 1 ≤ j := by
        rcases Nat.eq_zero_or_pos j with e | e
        · subst e; simp at h; omega
        · exact e
      have := decF_short j k (N / 10) h1 (by rw [Nat.pow_succ] at h; omega)
      simp only [List.length_cons, List.length_nil]
      omega
set_option maxRecDepth 100000 in
set_option maxHeartbeats 4000000 in
theorem digits_walk (n : Int) (w : World) (h1 : -9223372036854775808 ≤ n) (h2 : n ≤ 9223372036854775807) : Calls Try.prog 47 #[.int .i64 n] w fun e w' => e = .returned (.string (T (Ty.numT n))) ∧ Below w.heap.size w w' := by
  obtain ⟨N, hN, hT⟩ : ∃ N : Nat, ((n < 0 ∧ IntKind.u64.wrap (-IntKind.u64.wrap n) = (N : Int)) ∨ (0 ≤ n ∧ n = (N : Int))) ∧ N ≤ 9223372036854775808 ∧ Ty.numT n = (if n < 0 then 45 :: Ty.decF 20 N else Ty.decF 20 N) := by
    refine ⟨n.natAbs, ?_, by omega, rfl⟩
    by_cases hn : n < 0
    · exact .inl ⟨hn, by rw [IntKind.wrap_u64, IntKind.wrap_u64]; omega⟩
    · exact .inr ⟨by omega, by omega⟩
  obtain ⟨hN2, hT⟩ := hT
  have K0 := Blk.new w 75 (Array.replicate 20 (.int .u8 0))
  have T0 : Tail (w.alloc (.cells (Array.replicate 20 (.int .u8 0)) 75)) w.heap.size 20 [] := ⟨by omega, rfl, _, K0, by simp, fun i hi => absurd hi (by omega)⟩
  rw [show (Array.replicate 20 (Value.int .u8 0)) = #[.int .u8 0, .int .u8 0, .int .u8 0, .int .u8 0, .int .u8 0, .int .u8 0, .int .u8 0, .int .u8 0, .int .u8 0, .int .u8 0, .int .u8 0, .int .u8 0, .int .u8 0, .int .u8 0, .int .u8 0, .int .u8 0, .int .u8 0, .int .u8 0, .int .u8 0, .int .u8 0] from rfl] at T0
  have b0 := alloc_one w (.cells #[.int .u8 0, .int .u8 0, .int .u8 0, .int .u8 0, .int .u8 0, .int .u8 0, .int .u8 0, .int .u8 0, .int .u8 0, .int .u8 0, .int .u8 0, .int .u8 0, .int .u8 0, .int .u8 0, .int .u8 0, .int .u8 0, .int .u8 0, .int .u8 0, .int .u8 0, .int .u8 0] 75)
  have HT := Lib.hid hT
  clear K0 hT
  rcases hN with ⟨hn, hw⟩ | ⟨hn, rfl⟩
  all_goals
    go_enter Try.func47, Try.ntmps47
    go_wp2_with fail
    go_loopw [4, 5] (fun x m wr => ∃ (a : Nat) (M : Nat) (s : List UInt8), 1 ≤ a ∧ a ≤ 20 ∧ M ≤ N ∧ x = .int .i64 (a : Int) ∧ m = .int .u64 (M : Int) ∧ M < 10 ^ a ∧ Tail wr w.heap.size a s ∧ Ty.decF 20 N = Ty.decF a M ++ s ∧ Below w.heap.size w wr) (fun x _ _ => (intOf x).toNat)
    case atStart => exact ⟨20, N, [], by omega, by omega, Nat.le_refl _, rfl, rfl, Nat.lt_of_le_of_lt hN2 (by decide), T0, by simp, b0⟩
    case round =>
      clear T0 b0
      obtain ⟨a, M, s, ha1, ha, hM, rfl, rfl, hlt, tl, hd, bb⟩ := hrel
      obtain ⟨a, rfl⟩ : ∃ j, a = j + 1 := ⟨a - 1, by omega⟩
      obtain ⟨⟨u, hu⟩, hfr, hlg⟩ := tl.cell
      have hz := bb.size
      have hv : (48 + ((M : Int) % 10)) = ((Ty.dgt (M % 10)).toNat : Int) := by rw [Ty.dgt_toNat (Nat.mod_lt _ (by decide))]; omega
      have ts := tl.step (Ty.dgt (M % 10)) hv
      have HTS := Lib.hid ts
      have he : Ty.decF (a + 1) M = (if M / 10 = 0 then [] else Ty.decF a (M / 10)) ++ [Ty.dgt (M % 10)] := rfl
      have hq : M / 10 < 10 ^ a := by rw [Nat.pow_succ] at hlt; omega
      have HD := Lib.hid hd; have HE := Lib.hid he; have HQ := Lib.hid hq
      clear ts tl hv hd he hlt hq
      by_cases hM0 : M / 10 = 0
      · have hz1 : ((M : Int) / 10 == 0) = true := by rw [beq_iff_eq]; omega
        have hts := HTS.out
        have htot : Ty.decF 20 N = Ty.dgt (M % 10) :: s := by rw [HD.out, HE.out, if_pos hM0]; rfl
        have HTOT := Lib.hid htot
        have hb2 := bb.setCell (p := ⟨w.heap.size, a, none⟩) (Nat.le_refl _) (.int .u8 (48 + ((M : Int) % 10)))
        have hz2 : 1 ≤ a := by
          have h1 := decF_short 19 20 N (by omega) (Nat.lt_of_le_of_lt hN2 (by decide))
          rw [htot] at h1
          have h2 := hts.len
          have h3 := hts.le
          omega
        obtain ⟨j, rfl⟩ : ∃ j, a = j + 1 := ⟨a - 1, by omega⟩
        obtain ⟨⟨u2, hu2⟩, hfr2, hlg2⟩ := hts.cell
        have hts2 := hts.step 45 (v := 45) rfl
        have hb3 := hb2.setCell (p := ⟨w.heap.size, j, none⟩) (Nat.le_refl _) (.int .u8 45)
        have ra1 := fun w' => run_arr_rest w.heap.size (j + 1) (by omega) (z := (j : Int) + 1) (by omega) w'
        have ra2 := fun w' => run_arr_rest w.heap.size j (by omega) rfl w'
        have e1 := convb hts.rb
        have e2 := convb hts2.rb
        have e20 : 20 - (j + 1) = 19 - j := by omega
        rw [e20] at e1
        simp only [e20] at ra1
        clear e20
        have HB2 := Lib.hid hb2; have HB3 := Lib.hid hb3
        clear hts hts2 hM0 hb2 hb3
        go_wp2_with fail
        go_ret
        first
          | exact ⟨by rw [HT.out, if_pos hn, HTOT.out]; rfl, HB3.out⟩
          | exact ⟨by rw [HT.out, if_neg (by omega), HTOT.out]; rfl, HB2.out⟩
      · have hz1 : ((M : Int) / 10 == 0) = false := by rw [beq_eq_false_iff_ne]; omega
        have ha2 : 1 ≤ a := by
          rcases Nat.eq_zero_or_pos a with e | e
          · subst e; have := HQ.out; simp at this; omega
          · exact e
        have hle : M / 10 ≤ N := by omega
        have HM0 := Lib.hid hM0; clear hM0
        go_wp2_with fail
        go_roundw
        case rel => exact ⟨a, M / 10, _, ha2, by omega, hle, by go_num, by go_num, HQ.out, HTS.out, by rw [HD.out, HE.out, if_neg HM0.out]; simp, bb.setCell (p := ⟨w.heap.size, a, none⟩) (Nat.le_refl _) _⟩
        case measure => simp [intOf] <;> omega
end Go.Proofs.Ytfmfcgpofkccgaa
