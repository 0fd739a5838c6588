/-
  Walk: 'known' of the statements of layer 29.
  Conditions: none.
-/
import Derived.Test.YtecgahhdbhdplaaBitUnp
import Derived.Test.YtecgahhdbhdplaaBitSame
import Derived.KernelRfl
namespace Go.Proofs.Ytecgahhdbhdplaa
set_option linter.unusedVariables false
set_option linter.unusedSimpArgs false
open Go.RowKit
theorem kb1 : Bt.packS [⟨4, [5]⟩, ⟨8, [255]⟩, ⟨1, [1]⟩] = ([245, 31], 0) := by kernel_rfl
theorem kb2 : Bt.unpackS [245, 31] [4, 8, 1] = ([⟨4, [5]⟩, ⟨8, [255]⟩, ⟨1, [1]⟩], 0) := by kernel_rfl
theorem kb3 : Bt.lowF [245, 31] 4 8 = 255 := by kernel_rfl
theorem kb4 : Bt.roomS 1 7 2 = 2 := by decide
theorem kb5 : Bt.wideS 1 2 = false := by decide
theorem kb6 : Bt.bytesS 9 = 2 := by decide
theorem rows3 {α : Type} {R : α → List Value → Prop} {a b c : α} {x y z : List Value} {s : Nat} (h1 : R a x) (h2 : R b y) (h3 : R c z) (l1 : x.length = s) (l2 : y.length = s) (l3 : z.length = s) : Rows R s [a, b, c] (x ++ y ++ z) :=
  ((Rows.one h1 l1).append (Rows.one h2 l2)).append (Rows.one h3 l3)
theorem kn_fields (w : World) : RFl ((((w.alloc (.cells #[.int .u8 5] 5)).alloc (.cells #[.int .u8 255] 5)).alloc (.cells #[.int .u8 1] 5)).alloc
    (.cells #[.int .i64 4, .slice (some ⟨w.heap.size, 0, none⟩) 1 1, .int .i64 8, .slice (some ⟨w.heap.size + 1, 0, none⟩) 1 1, .int .i64 1, .slice (some ⟨w.heap.size + 1 + 1, 0, none⟩) 1 1] 51))
    (w.heap.size + 1 + 1 + 1 + 1) (w.heap.size + 1 + 1 + 1) (some ⟨w.heap.size + 1 + 1 + 1, 0, none⟩) 3 3 [⟨4, [5]⟩, ⟨8, [255]⟩, ⟨1, [1]⟩] := by
  have r1 := ((((RB.lit w [.int .u8 5] [5] rfl (n := 1) rfl (by omega)).alloc (by simp) (.cells #[.int .u8 255] 5)).alloc (by simp) (.cells #[.int .u8 1] 5)).alloc (by simp) (.cells #[.int .i64 4, .slice (some ⟨w.heap.size, 0, none⟩) 1 1, .int .i64 8, .slice (some ⟨w.heap.size + 1, 0, none⟩) 1 1, .int .i64 1, .slice (some ⟨w.heap.size + 1 + 1, 0, none⟩) 1 1] 51)).more (show w.heap.size + 1 ≤ w.heap.size + 1 + 1 + 1 by omega)
  have r2 := (((RB.lit (w.alloc (.cells #[.int .u8 5] 5)) [.int .u8 255] [255] rfl (n := 1) rfl (by omega)).alloc (by simp) (.cells #[.int .u8 1] 5)).alloc (by simp) (.cells #[.int .i64 4, .slice (some ⟨w.heap.size, 0, none⟩) 1 1, .int .i64 8, .slice (some ⟨w.heap.size + 1, 0, none⟩) 1 1, .int .i64 1, .slice (some ⟨w.heap.size + 1 + 1, 0, none⟩) 1 1] 51)).more (B' := w.heap.size + 1 + 1 + 1) (by simp)
  have r3 := ((RB.lit ((w.alloc (.cells #[.int .u8 5] 5)).alloc (.cells #[.int .u8 255] 5)) [.int .u8 1] [1] rfl (n := 1) rfl (by omega)).alloc (by simp) (.cells #[.int .i64 4, .slice (some ⟨w.heap.size, 0, none⟩) 1 1, .int .i64 8, .slice (some ⟨w.heap.size + 1, 0, none⟩) 1 1, .int .i64 1, .slice (some ⟨w.heap.size + 1 + 1, 0, none⟩) 1 1] 51)).more (B' := w.heap.size + 1 + 1 + 1) (by simp)
  have rl := RV.lit (((w.alloc (.cells #[.int .u8 5] 5)).alloc (.cells #[.int .u8 255] 5)).alloc (.cells #[.int .u8 1] 5)) 51 3 (size := 2) (cs := [.int .i64 4, .slice (some ⟨w.heap.size, 0, none⟩) 1 1, .int .i64 8, .slice (some ⟨w.heap.size + 1, 0, none⟩) 1 1, .int .i64 1, .slice (some ⟨w.heap.size + 1 + 1, 0, none⟩) 1 1]) rfl (by omega)
  have hs : ∀ (w : World) (o : Obj), (w.alloc o).heap.size = w.heap.size + 1 := fun w o => by simp
  simp only [hs] at r1 r2 r3 rl
  refine ⟨_, rl, ?_⟩
  exact rows3 (x := [.int .i64 4, .slice (some ⟨w.heap.size, 0, none⟩) 1 1]) (y := [.int .i64 8, .slice (some ⟨w.heap.size + 1, 0, none⟩) 1 1]) (z := [.int .i64 1, .slice (some ⟨w.heap.size + 1 + 1, 0, none⟩) 1 1]) (show FlC _ _ ⟨4, [5]⟩ _ from ⟨_, _, _, rfl, r1⟩) (show FlC _ _ ⟨8, [255]⟩ _ from ⟨_, _, _, rfl, r2⟩) (show FlC _ _ ⟨1, [1]⟩ _ from ⟨_, _, _, rfl, r3⟩) rfl rfl rfl
theorem kn_ints (w : World) : RI (w.alloc (.cells #[.int .i64 4, .int .i64 8, .int .i64 1] 3)) (w.heap.size + 1) (some ⟨w.heap.size, 0, none⟩) 3 3 [4, 8, 1] :=
  RV.lit w 3 3 (size := 1) (cs := [.int .i64 4, .int .i64 8, .int .i64 1]) rfl (by omega)
set_option maxRecDepth 100000 in
set_option maxHeartbeats 4000000 in
theorem known29_any (w : World) : Calls Try.prog 7 #[] w fun e w' => e = .returned (.bool true) ∧ Below w.heap.size w w' := by
  have F := kn_fields w
  have b0 : Below w.heap.size w ((((w.alloc (.cells #[.int .u8 5] 5)).alloc (.cells #[.int .u8 255] 5)).alloc (.cells #[.int .u8 1] 5)).alloc
    (.cells #[.int .i64 4, .slice (some ⟨w.heap.size, 0, none⟩) 1 1, .int .i64 8, .slice (some ⟨w.heap.size + 1, 0, none⟩) 1 1, .int .i64 1, .slice (some ⟨w.heap.size + 1 + 1, 0, none⟩) 1 1] 51)) :=
    ((((Below.refl _ w).alloc (Nat.le_refl _) _).alloc (by simp) _).alloc (by simp; omega) _).alloc (by simp; omega) _
  have P := Pack_any _ F (by omega) (by simp) (by omega) (by simp) (by simp)
  rw [kb1] at P
  replace P := Lib.hid P
  go_enter Try.func7, Try.ntmps7
  go_wp2_with fail
  refine (P.out).mono ?_
  rintro e w1 ⟨A1, c1, rfl, o1, b1⟩
  dsimp only [List.length_cons, List.length_nil] at o1
  have d1 := below_step b0 b1 (Nat.le_refl _)
  have e1 := convb o1.rb
  clear F P b0 b1
  go_wp2_with fail
  have bI := alloc_one w1 (.cells #[.int .i64 4, .int .i64 8, .int .i64 1] 3)
  have U := Unpack_any _ (o1.rb.below bI) (kn_ints w1) (by omega) (by omega) bI.size (by simp) (by simp)
  rw [kb2] at U
  replace U := Lib.hid U
  have dI := below_step d1 bI (Nat.le_refl _)
  refine (U.out).mono ?_
  rintro e w2 ⟨A2, c2, rfl, os, b2⟩
  have d2 := below_step dI b2 (Nat.le_refl _)
  have b12 := below_step bI b2 (Nat.le_refl _)
  replace o1 := o1.below b12
  have G := BGet_ok 4 8 w2 o1.rb (by omega) (by omega) (by omega) (by omega)
  rw [kb3, show ((4 : Nat) : Int) = 4 from rfl, show ((8 : Nat) : Int) = 8 from rfl, show ((255 : Nat) : Int) = 255 from rfl] at G
  replace G := Lib.hid G
  obtain ⟨g, o, A3, n3, c3, rfl, hg, q0, q1, hr⟩ := RFl.at_ (i := 1) (show RFl w2 w2.heap.size w2.heap.size A2 3 c2 [⟨4, [5]⟩, ⟨8, [255]⟩, ⟨1, [1]⟩] from os.rs.imp fun _ _ h => h.flc) (by omega)
  have hr' : RB w2 w2.heap.size A3 n3 c3 [255] := hr
  clear hr q0 os U e1 b12 b2 bI dI d1
  go_wp2_with fail
  refine (G.out).mono ?_
  rintro e _ ⟨rfl, rfl⟩
  have PB := BPut_bad (A := some ⟨w2.heap.size, 0, none⟩) (n := 1) (c := 1) 7 2 1 (w2.alloc (.cells #[.int .u8 0] 5)) (by omega) 2 (.inr (.inr ⟨kb4, kb5, rfl⟩))
  rw [show ((1 : Nat) : Int) = 1 from rfl] at PB
  have bB := alloc_one w2 (.cells #[.int .u8 0] 5)
  have dB := below_step d2 bB (Nat.le_refl _)
  have e1 := convb (o1.rb.below bB)
  have e2 := convb (hr'.below bB)
  have BY := Bytes_any 9 (w2.alloc (.cells #[.int .u8 0] 5)) (by omega)
  rw [kb6] at BY
  replace q1 := (bB.cell (p := ⟨g, o + 1 * 2 + 1, none⟩) hg).trans q1
  rw [show o + 1 * 2 + 1 = o + 2 + 1 by omega] at q1
  replace PB := Lib.hid PB
  replace BY := Lib.hid BY
  clear o1 hr'
  go_wp2_with fail
  refine (PB.out).mono ?_
  rintro e _ ⟨rfl, rfl⟩
  go_wp2_with fail
  refine (BY.out).mono ?_
  rintro e _ ⟨rfl, rfl⟩
  go_wp2_with fail
  go_ret
  exact ⟨rfl, dB⟩
end Go.Proofs.Ytecgahhdbhdplaa
