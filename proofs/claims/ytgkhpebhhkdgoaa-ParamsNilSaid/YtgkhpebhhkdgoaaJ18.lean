/-
  Texts joined: PrmKnown, PrmNil, PrmOpen.
  Conditions: none.
-/
import Derived.Test.YtgkhpebhhkdgoaaJ09
import Derived.Test.YtgkhpebhhkdgoaaJ10
import Derived.Test.YtgkhpebhhkdgoaaJ17
import Derived.KernelRfl
import Derived.Lib.SlBytesConst
/-
  Walk: 'known' of the statements of layer 33.
  Conditions: none.
-/
namespace Go.Proofs.Ytgkhpebhhkdgoaa
set_option linter.unusedVariables false
set_option linter.unusedSimpArgs false
open Go.RowKit Go.Sort
theorem cell_mark (w : World) (C : Array Value) (e : TypeId) (fr : Nat × Nat) (p : Addr) : (w.alloc (.cells C e fr)).cell? p = (w.alloc (.cells C e)).cell? p := by
  simp only [World.cell?, World.alloc, Array.getElem?_push]
  by_cases h : p.block = w.heap.size
  · rw [if_pos h, if_pos h]
  · rw [if_neg h, if_neg h]
theorem RB.mark {w : World} {C : Array Value} {e : TypeId} (fr : Nat × Nat) {B n c : Nat} {A : Option Addr} {l : List UInt8} (h : RB (w.alloc (.cells C e)) B A n c l) : RB (w.alloc (.cells C e fr)) B A n c l := h.keep fun p _ => cell_mark w C e fr p
theorem conv_const (w : World) (C : Array Value) (n c : Nat) : (convert 22 22 (.slice (some ⟨w.heap.size, 0, none⟩) n c)).run Try.prog (w.alloc (.cells C 5)) = .ok (.slice (some ⟨w.heap.size, 0, none⟩) n c) (w.alloc (.cells C 5 (C.size, C.size + 1))) := Lib.run_convert_bytes_const w 22 5 C n c Try.underlying22 Try.underlying5
def ks33 : Ent.En := ⟨4112, 1, [119], 7, 4, false, false, 0, 0, 4294967295, [0, 0, 0, 0]⟩
def kc33 : Ent.En := ⟨5120, 1, [119], 7, 4, false, false, 0, 0, 4294967295, [5, 2, 0, 0]⟩
def kd33 : Dc.Dic := ⟨[ks33, kc33], [[0, 0, 0, 0], [5, 2, 0, 0]]⟩
theorem k33new : Dc.newS [ks33, kc33] = (0, 0) := by kernel_rfl
theorem k33rpdo : Pm.rpdoS kd33 0 = some (517, 255, []) := by kernel_rfl
theorem k33num : Pm.numS kd33 5120 1 = (517, true) := by kernel_rfl
theorem k33may1 : Dc.mayS kd33.l false 4112 1 [115, 97, 118, 95] = 0 := by kernel_rfl
theorem k33may2 : Dc.mayS kd33.l false 5120 1 [1, 0, 0, 0] = 0 := by kernel_rfl
theorem k33ask1 : Pm.askS kd33 (Dc.pokeS kd33 4112 1 [115, 97, 118, 95]) 4112 1 = some 134217760 := by kernel_rfl
theorem k33ask2 : Pm.askS kd33 (Dc.pokeS kd33 5120 1 [1, 0, 0, 0]) 5120 1 = some 100925507 := by kernel_rfl
theorem k33g1 {r : Int} (h : Pm.Guards kd33 4112 1 [115, 97, 118, 95] r) : r = 134217760 := by
  unfold Pm.Guards at h
  rw [k33may1, if_neg (by decide)] at h
  exact h _ k33ask1
theorem k33g2 {r : Int} (h : Pm.Guards kd33 5120 1 [1, 0, 0, 0] r) : r = 100925507 := by
  unfold Pm.Guards at h
  rw [k33may2, if_neg (by decide)] at h
  exact h _ k33ask2
theorem k33dflt : ∀ e ∈ kd33.l, e.dflt.length ≤ 1000000 := by intro e he; simp only [kd33, List.mem_cons, List.not_mem_nil, or_false] at he; rcases he with rfl | rfl <;> decide
theorem k33vals : ∀ v ∈ kd33.v, v.length ≤ 1000000 := by intro v hv; simp only [kd33, List.mem_cons, List.not_mem_nil, or_false] at hv; rcases hv with rfl | rfl <;> decide
theorem k33fine : Dc.Fine kd33 := Dc.Fine.new (es := [ks33, kc33]) (by rw [k33new]) (by intro e he; simp only [List.mem_cons, List.not_mem_nil, or_false] at he; rcases he with rfl | rfl <;> decide)
def w33 (w : World) : World := (((((w.alloc (.cells #[.int .u8 0, .int .u8 0, .int .u8 0, .int .u8 0] 5)).alloc (.cells #[.int .i64 0, .int .i64 0, .string (T [119]), .int .i64 7, .int .i64 4, .bool false, .bool false, .int .i64 0, .int .i64 0, .int .i64 4294967295, .slice (some ⟨w.heap.size, 0, none⟩) 4 4] 46)).alloc (.cells #[.int .i64 5120, .int .i64 1, .string (T [119]), .int .i64 7, .int .i64 4, .bool false, .bool false, .int .i64 0, .int .i64 0, .int .i64 4294967295, .slice (some ⟨w.heap.size + 1 + 1 + 1, 0, none⟩) 4 4] 46)).alloc (.cells #[.int .u8 5, .int .u8 2, .int .u8 0, .int .u8 0] 5)).alloc (.cells #[.int .i64 4112, .int .i64 1, .string (T [119]), .int .i64 7, .int .i64 4, .bool false, .bool false, .int .i64 0, .int .i64 0, .int .i64 4294967295, .slice (some ⟨w.heap.size, 0, none⟩) 4 4] 46)).alloc (.cells #[.int .i64 4112, .int .i64 1, .string (T [119]), .int .i64 7, .int .i64 4, .bool false, .bool false, .int .i64 0, .int .i64 0, .int .i64 4294967295, .slice (some ⟨w.heap.size, 0, none⟩) 4 4, .int .i64 5120, .int .i64 1, .string (T [119]), .int .i64 7, .int .i64 4, .bool false, .bool false, .int .i64 0, .int .i64 0, .int .i64 4294967295, .slice (some ⟨w.heap.size + 1 + 1 + 1, 0, none⟩) 4 4] 46)
theorem k33world (w : World) : Below w.heap.size w (w33 w) ∧ REn (w33 w) (w.heap.size + 1 + 1 + 1 + 1 + 1 + 1) (w.heap.size + 1 + 1 + 1 + 1) (some ⟨w.heap.size + 1 + 1 + 1 + 1 + 1, 0, none⟩) 2 2 [ks33, kc33] ∧ (w33 w).heap.size = w.heap.size + 1 + 1 + 1 + 1 + 1 + 1 := by
  have hs : ∀ (w : World) (o : Obj), (w.alloc o).heap.size = w.heap.size + 1 := fun w o => by simp
  unfold w33
  have a0 := alloc_one w (.cells #[.int .u8 0, .int .u8 0, .int .u8 0, .int .u8 0] 5)
  have r0 := RB.lit w [.int .u8 0, .int .u8 0, .int .u8 0, .int .u8 0] [0, 0, 0, 0] rfl (n := 4) rfl (by omega)
  have s0 := hs w (.cells #[.int .u8 0, .int .u8 0, .int .u8 0, .int .u8 0] 5)
  generalize w.alloc (.cells #[.int .u8 0, .int .u8 0, .int .u8 0, .int .u8 0] 5) = u0 at *
  have a1 := alloc_one u0 (.cells #[.int .i64 0, .int .i64 0, .string (T [119]), .int .i64 7, .int .i64 4, .bool false, .bool false, .int .i64 0, .int .i64 0, .int .i64 4294967295, .slice (some ⟨w.heap.size, 0, none⟩) 4 4] 46)
  have s1 := hs u0 (.cells #[.int .i64 0, .int .i64 0, .string (T [119]), .int .i64 7, .int .i64 4, .bool false, .bool false, .int .i64 0, .int .i64 0, .int .i64 4294967295, .slice (some ⟨w.heap.size, 0, none⟩) 4 4] 46)
  generalize u0.alloc (.cells #[.int .i64 0, .int .i64 0, .string (T [119]), .int .i64 7, .int .i64 4, .bool false, .bool false, .int .i64 0, .int .i64 0, .int .i64 4294967295, .slice (some ⟨w.heap.size, 0, none⟩) 4 4] 46) = u1 at *
  have a2 := alloc_one u1 (.cells #[.int .i64 5120, .int .i64 1, .string (T [119]), .int .i64 7, .int .i64 4, .bool false, .bool false, .int .i64 0, .int .i64 0, .int .i64 4294967295, .slice (some ⟨w.heap.size + 1 + 1 + 1, 0, none⟩) 4 4] 46)
  have s2 := hs u1 (.cells #[.int .i64 5120, .int .i64 1, .string (T [119]), .int .i64 7, .int .i64 4, .bool false, .bool false, .int .i64 0, .int .i64 0, .int .i64 4294967295, .slice (some ⟨w.heap.size + 1 + 1 + 1, 0, none⟩) 4 4] 46)
  generalize u1.alloc (.cells #[.int .i64 5120, .int .i64 1, .string (T [119]), .int .i64 7, .int .i64 4, .bool false, .bool false, .int .i64 0, .int .i64 0, .int .i64 4294967295, .slice (some ⟨w.heap.size + 1 + 1 + 1, 0, none⟩) 4 4] 46) = u2 at *
  have a3 := alloc_one u2 (.cells #[.int .u8 5, .int .u8 2, .int .u8 0, .int .u8 0] 5)
  have r3 := RB.lit u2 [.int .u8 5, .int .u8 2, .int .u8 0, .int .u8 0] [5, 2, 0, 0] rfl (n := 4) rfl (by omega)
  have s3 := hs u2 (.cells #[.int .u8 5, .int .u8 2, .int .u8 0, .int .u8 0] 5)
  generalize u2.alloc (.cells #[.int .u8 5, .int .u8 2, .int .u8 0, .int .u8 0] 5) = u3 at *
  have a4 := alloc_one u3 (.cells #[.int .i64 4112, .int .i64 1, .string (T [119]), .int .i64 7, .int .i64 4, .bool false, .bool false, .int .i64 0, .int .i64 0, .int .i64 4294967295, .slice (some ⟨w.heap.size, 0, none⟩) 4 4] 46)
  have s4 := hs u3 (.cells #[.int .i64 4112, .int .i64 1, .string (T [119]), .int .i64 7, .int .i64 4, .bool false, .bool false, .int .i64 0, .int .i64 0, .int .i64 4294967295, .slice (some ⟨w.heap.size, 0, none⟩) 4 4] 46)
  generalize u3.alloc (.cells #[.int .i64 4112, .int .i64 1, .string (T [119]), .int .i64 7, .int .i64 4, .bool false, .bool false, .int .i64 0, .int .i64 0, .int .i64 4294967295, .slice (some ⟨w.heap.size, 0, none⟩) 4 4] 46) = u4 at *
  have a5 := alloc_one u4 (.cells #[.int .i64 4112, .int .i64 1, .string (T [119]), .int .i64 7, .int .i64 4, .bool false, .bool false, .int .i64 0, .int .i64 0, .int .i64 4294967295, .slice (some ⟨w.heap.size, 0, none⟩) 4 4, .int .i64 5120, .int .i64 1, .string (T [119]), .int .i64 7, .int .i64 4, .bool false, .bool false, .int .i64 0, .int .i64 0, .int .i64 4294967295, .slice (some ⟨w.heap.size + 1 + 1 + 1, 0, none⟩) 4 4] 46)
  have rl := RV.lit u4 46 2 (size := 11) (cs := [.int .i64 4112, .int .i64 1, .string (T [119]), .int .i64 7, .int .i64 4, .bool false, .bool false, .int .i64 0, .int .i64 0, .int .i64 4294967295, .slice (some ⟨w.heap.size, 0, none⟩) 4 4, .int .i64 5120, .int .i64 1, .string (T [119]), .int .i64 7, .int .i64 4, .bool false, .bool false, .int .i64 0, .int .i64 0, .int .i64 4294967295, .slice (some ⟨w.heap.size + 1 + 1 + 1, 0, none⟩) 4 4]) rfl (by omega)
  have s5 := hs u4 (.cells #[.int .i64 4112, .int .i64 1, .string (T [119]), .int .i64 7, .int .i64 4, .bool false, .bool false, .int .i64 0, .int .i64 0, .int .i64 4294967295, .slice (some ⟨w.heap.size, 0, none⟩) 4 4, .int .i64 5120, .int .i64 1, .string (T [119]), .int .i64 7, .int .i64 4, .bool false, .bool false, .int .i64 0, .int .i64 0, .int .i64 4294967295, .slice (some ⟨w.heap.size + 1 + 1 + 1, 0, none⟩) 4 4] 46)
  rw [s0] at s1
  rw [s1] at s2
  rw [s2] at s3 r3
  rw [s3] at s4
  rw [s4] at s5 rl
  have b35 := below_step a4 a5 (Nat.le_refl _)
  have b05 := below_step (below_step (below_step a1 a2 (Nat.le_refl _)) a3 (Nat.le_refl _)) b35 (Nat.le_refl _)
  refine ⟨below_step a0 b05 (Nat.le_refl _), ⟨_, rl, ?_⟩, s5⟩
  have h1 : EnC (u4.alloc (.cells #[.int .i64 4112, .int .i64 1, .string (T [119]), .int .i64 7, .int .i64 4, .bool false, .bool false, .int .i64 0, .int .i64 0, .int .i64 4294967295, .slice (some ⟨w.heap.size, 0, none⟩) 4 4, .int .i64 5120, .int .i64 1, .string (T [119]), .int .i64 7, .int .i64 4, .bool false, .bool false, .int .i64 0, .int .i64 0, .int .i64 4294967295, .slice (some ⟨w.heap.size + 1 + 1 + 1, 0, none⟩) 4 4] 46)) (w.heap.size + 1 + 1 + 1 + 1) ks33 (enL ks33 (some ⟨w.heap.size, 0, none⟩) 4 4) := ⟨_, _, _, rfl, (r0.below (b05.mono (by omega))).more (by omega)⟩
  have h2 : EnC (u4.alloc (.cells #[.int .i64 4112, .int .i64 1, .string (T [119]), .int .i64 7, .int .i64 4, .bool false, .bool false, .int .i64 0, .int .i64 0, .int .i64 4294967295, .slice (some ⟨w.heap.size, 0, none⟩) 4 4, .int .i64 5120, .int .i64 1, .string (T [119]), .int .i64 7, .int .i64 4, .bool false, .bool false, .int .i64 0, .int .i64 0, .int .i64 4294967295, .slice (some ⟨w.heap.size + 1 + 1 + 1, 0, none⟩) 4 4] 46)) (w.heap.size + 1 + 1 + 1 + 1) kc33 (enL kc33 (some ⟨w.heap.size + 1 + 1 + 1, 0, none⟩) 4 4) := ⟨_, _, _, rfl, r3.below (b35.mono (by omega))⟩
  exact (Rows.one h1 rfl).append (Rows.one h2 rfl)
set_option maxHeartbeats 1000000 in
theorem Command_save (w : World) {A : Option Addr} {n c B : Nat} (h : RB w B A n c [115, 97, 118, 101]) (hB : B ≤ w.heap.size) : Calls Try.prog 14 #[.agg #[.int .i64 4112, .int .i64 1, .slice A n c]] w fun e w' => e = .returned (.tuple #[.int .i64 1, .int .i64 1]) ∧ Below w.heap.size w w' := by
  have b0 := alloc_one w (.cells #[.int .i64 4112, .int .i64 1, .slice A n c] 24)
  have F0 := (Blk.new w 24 #[.int .i64 4112, .int .i64 1, .slice A n c]).three
  have e1 := convb (h.below ((alloc_one w (.cells #[.int .i64 4112, .int .i64 1, .slice A n c] 24)).mono hB))
  clear h
  go_enter Try.func14, Try.ntmps14
  go_wp2_with fail
  go_quiet (fail)
  go_wp2_with fail
  go_ret2
  exact ⟨rfl, below_drewN b0 nq⟩
set_option maxRecDepth 100000 in
set_option maxHeartbeats 8000000 in
theorem known33_any (w : World) : Calls Try.prog 4 #[] w fun e w' => e = .returned (.bool true) ∧ Below w.heap.size w w' := by
  obtain ⟨b0, F, hz⟩ := k33world w
  have NW := dNew_any (w33 w) F (by omega) (by omega) (by intro e he; simp only [List.mem_cons, List.not_mem_nil, or_false] at he; rcases he with rfl | rfl <;> decide)
  unfold NewPost at NW
  rw [k33new] at NW
  replace NW := Lib.hid NW
  have B0 := Lib.hid b0
  clear b0 F hz
  unfold w33 at NW B0
  go_enter Try.func4, Try.ntmps4
  go_wp2_with fail
  refine (NW.out).mono ?_
  rintro e w1 (⟨_, b1, g, gv, lc, vc, la, vA, xs, vs, rfl, hd⟩ | ⟨h0, _⟩)
  case inr => exact absurd rfl h0
  have d1 := below_step B0.out b1 (Nat.le_refl _)
  replace hd := hd.cut
  rw [show (⟨[ks33, kc33], [ks33, kc33].map (·.dflt)⟩ : Dc.Dic) = kd33 from rfl] at hd
  clear NW b1 B0
  have RP := Rpdo_any 0 hd k33dflt k33vals
  rw [k33rpdo] at RP
  unfold RpP at RP
  replace RP := Lib.hid RP
  go_wp2_with fail
  refine (RP.out).mono ?_
  rintro e w2 ⟨A2, c2, rfl, o2, b2⟩
  try dsimp only at o2
  have a3 := alloc_one w2 (.cells #[.int .u32 517, .int .i64 255, .slice A2 0 c2] 31)
  have K3 := Blk.new w2 31 #[.int .u32 517, .int .i64 255, .slice A2 0 c2]
  have b23 := below_step b2 a3 (Nat.le_refl _)
  have d3 := below_step d1 b23 (Nat.le_refl _)
  replace hd := hd.below b23
  have NU := Number_any 5120 1 hd k33dflt k33vals
  rw [k33num] at NU
  replace NU := Lib.hid NU
  clear RP d1 b2 a3 b23 o2
  go_wp2_with fail
  refine (NU.out).mono ?_
  rintro e w4 ⟨rfl, b4⟩
  have d4 := below_step d3 b4 (Nat.le_refl _)
  replace hd := hd.below b4
  have K4 := K3.later b4
  have a5 := alloc_one w4 (.cells #[.int .u8 115, .int .u8 97, .int .u8 118, .int .u8 101] 5 (4, 5))
  have cv5 : (convert 22 22 (.slice (some ⟨w4.heap.size, 0, none⟩) 4 4)).run Try.prog (w4.alloc (.cells #[.int .u8 115, .int .u8 97, .int .u8 118, .int .u8 101] 5)) = .ok (.slice (some ⟨w4.heap.size, 0, none⟩) 4 4) (w4.alloc (.cells #[.int .u8 115, .int .u8 97, .int .u8 118, .int .u8 101] 5 (4, 5))) := conv_const w4 _ 4 4
  have r5 := (RB.lit w4 [.int .u8 115, .int .u8 97, .int .u8 118, .int .u8 101] [115, 97, 118, 101] rfl (n := 4) rfl (by omega)).mark (4, 5)
  have CM := Lib.hid (Command_save _ r5 (by simp))
  have d5 := below_step d4 a5 (Nat.le_refl _)
  replace hd := hd.below a5
  have K5 := K4.later a5
  clear NU K3 d3 d4 r5
  go_wp2_with fail
  refine (CM.out).mono ?_
  rintro e w6 ⟨rfl, b6⟩
  have d6 := below_step d5 b6 (Nat.le_refl _)
  replace hd := hd.below b6
  have K6 := (K5.later b6).three
  have a7 := alloc_one w6 (.cells #[.int .u8 115, .int .u8 97, .int .u8 118, .int .u8 95] 5 (4, 5))
  have cv7 : (convert 22 22 (.slice (some ⟨w6.heap.size, 0, none⟩) 4 4)).run Try.prog (w6.alloc (.cells #[.int .u8 115, .int .u8 97, .int .u8 118, .int .u8 95] 5)) = .ok (.slice (some ⟨w6.heap.size, 0, none⟩) 4 4) (w6.alloc (.cells #[.int .u8 115, .int .u8 97, .int .u8 118, .int .u8 95] 5 (4, 5))) := conv_const w6 _ 4 4
  have r7 := (RB.lit w6 [.int .u8 115, .int .u8 97, .int .u8 118, .int .u8 95] [115, 97, 118, 95] rfl (n := 4) rfl (by omega)).mark (4, 5)
  have d7 := below_step d6 a7 (Nat.le_refl _)
  replace hd := hd.below a7
  have G1 := Lib.hid (Guard_any 4112 1 hd k33dflt k33fine r7 (by simp) (by omega))
  clear CM K4 K5 d5 d6 r7
  go_wp2_with fail
  refine (G1.out).mono ?_
  rintro e w8 ⟨⟨r, rfl, hr⟩, b8⟩
  obtain rfl := k33g1 hr
  have d8 := below_step d7 b8 (Nat.le_refl _)
  replace hd := hd.below b8
  have a9 := alloc_one w8 (.cells #[.int .u8 1, .int .u8 0, .int .u8 0, .int .u8 0] 5)
  have r9 := RB.lit w8 [.int .u8 1, .int .u8 0, .int .u8 0, .int .u8 0] [1, 0, 0, 0] rfl (n := 4) rfl (by omega)
  have d9 := below_step d8 a9 (Nat.le_refl _)
  replace hd := hd.below a9
  have G2 := Lib.hid (Guard_any 5120 1 hd k33dflt k33fine r9 (by simp) (by omega))
  clear G1 K6 d7 d8 r9 hr
  go_wp2_with fail
  refine (G2.out).mono ?_
  rintro e w10 ⟨⟨r, rfl, hr⟩, b10⟩
  obtain rfl := k33g2 hr
  go_wp2_with fail
  go_ret
  exact ⟨rfl, below_step d9 b10 (Nat.le_refl _)⟩
end Go.Proofs.Ytgkhpebhhkdgoaa
/-
  Walks: the functions of layers 15 and 33 without a dictionary.
  Conditions: none.
-/
namespace Go.Proofs.Ytgkhpebhhkdgoaa
set_option linter.unusedVariables false
set_option linter.unusedSimpArgs false
open Go.RowKit
theorem there_nil (w : World) : Calls Try.prog 35 #[.pointer none] w fun e w' => e = .returned (.bool false) ∧ w = w' := by
  go_enter Try.func35, Try.ntmps35
  go_wp2_with fail
  go_ret
  exact ⟨rfl, rfl⟩
theorem dLen_nil (w : World) : Calls Try.prog 30 #[.pointer none] w fun e w' => e = .returned (.int .i64 0) ∧ w = w' := by
  have T0 := Lib.hid (fun w => there_nil w)
  go_enter Try.func30, Try.ntmps30
  go_wp2_with fail
  refine (T0.out _).mono ?_
  rintro e _ ⟨rfl, rfl⟩
  go_wp2_with fail
  go_ret
  exact ⟨rfl, rfl⟩
set_option maxHeartbeats 1000000 in
theorem dseek_nil (x y : Int) (w : World) : Calls Try.prog 28 #[.pointer none, .int .i64 x, .int .i64 y] w fun e w' => e = .returned (.int .i64 0) ∧ Below w.heap.size w w' := by
  have L0 := Lib.hid (fun w => dLen_nil w)
  have b0 := alloc_one w (.cells #[.int .i64 x, .int .i64 y, .string ByteArray.empty, .int .i64 0, .int .i64 0, .bool false, .bool false, .int .i64 0, .int .i64 0, .int .i64 0, .slice none 0 0] 46)
  go_enter Try.func28, Try.ntmps28
  go_wp2_with fail
  refine (L0.out _).mono ?_
  rintro e _ ⟨rfl, rfl⟩
  go_wp2_with fail
  go_loopw [8, 9] (fun a b wr => a = .int .i64 0 ∧ b = .int .i64 0 ∧ Below w.heap.size w wr) (fun _ _ _ => 0)
  case atStart => exact ⟨rfl, rfl, b0⟩
  case round =>
    obtain ⟨rfl, rfl, bb⟩ := hrel
    go_wp2_with fail
    go_ret
    exact ⟨rfl, bb⟩
theorem dat_nil (x y : Int) (w : World) : Calls Try.prog 29 #[.pointer none, .int .i64 0, .int .i64 x, .int .i64 y] w fun e w' => e = .returned (.bool false) ∧ w = w' := by
  have L0 := Lib.hid (fun w => dLen_nil w)
  go_enter Try.func29, Try.ntmps29
  go_wp2_with fail
  refine (L0.out _).mono ?_
  rintro e _ ⟨rfl, rfl⟩
  go_wp2_with fail
  go_ret
  exact ⟨rfl, rfl⟩
theorem dFind_nil (x y : Int) (w : World) : Calls Try.prog 15 #[.pointer none, .int .i64 x, .int .i64 y] w fun e w' => e = .returned (.tuple #[.int .i64 0, .bool false]) ∧ Below w.heap.size w w' := by
  have S0 := Lib.hid (fun w => dseek_nil x y w)
  have A0 := Lib.hid (fun w => dat_nil x y w)
  go_enter Try.func15, Try.ntmps15
  go_wp2_with fail
  refine (S0.out _).mono ?_
  rintro e w1 ⟨rfl, b1⟩
  go_wp2_with fail
  refine (A0.out _).mono ?_
  rintro e _ ⟨rfl, rfl⟩
  go_wp2_with fail
  go_ret2
  exact ⟨rfl, b1⟩
theorem dlocate_nil (x y : Int) (w : World) : Calls Try.prog 54 #[.pointer none, .int .i64 x, .int .i64 y] w fun e w' => e = .returned (.tuple #[.int .i64 0, .int .u32 100925511]) ∧ w = w' := by
  have T0 := Lib.hid (fun w => there_nil w)
  go_enter Try.func54, Try.ntmps54
  go_wp2_with fail
  refine (T0.out _).mono ?_
  rintro e _ ⟨rfl, rfl⟩
  go_wp2_with fail
  go_ret2
  exact ⟨rfl, rfl⟩
theorem dmay_nil (x y : Int) (A : Option Addr) (n c : Nat) (w : World) : Calls Try.prog 34 #[.pointer none, .int .i64 x, .int .i64 y, .slice A n c, .bool false] w fun e w' => e = .returned (.tuple #[.int .i64 0, .int .u32 100925511]) ∧ w = w' := by
  have L0 := Lib.hid (fun w => dlocate_nil x y w)
  go_enter Try.func34, Try.ntmps34
  go_wp2_with fail
  refine (L0.out _).mono ?_
  rintro e _ ⟨rfl, rfl⟩
  go_wp2_with fail
  go_ret2
  exact ⟨rfl, rfl⟩
theorem dMay_nil (x y : Int) (A : Option Addr) (n c : Nat) (w : World) : Calls Try.prog 20 #[.pointer none, .int .i64 x, .int .i64 y, .slice A n c] w fun e w' => e = .returned (.int .u32 100925511) ∧ w = w' := by
  have L0 := Lib.hid (fun w => dmay_nil x y A n c w)
  go_enter Try.func20, Try.ntmps20
  go_wp2_with fail
  refine (L0.out _).mono ?_
  rintro e _ ⟨rfl, rfl⟩
  go_wp2_with fail
  go_ret
  exact ⟨rfl, rfl⟩
theorem Number_nil (x y : Int) (w : World) : Calls Try.prog 5 #[.pointer none, .int .i64 x, .int .i64 y] w fun e w' => e = .returned (.tuple #[.int .i64 0, .bool false]) ∧ Below w.heap.size w w' := by
  have L0 := Lib.hid (fun w => dFind_nil x y w)
  go_enter Try.func5, Try.ntmps5
  go_wp2_with fail
  refine (L0.out _).mono ?_
  rintro e w1 ⟨rfl, b1⟩
  go_wp2_with fail
  go_ret2
  exact ⟨rfl, b1⟩
theorem number_nil (x y o : Int) (w : World) : Calls Try.prog 19 #[.pointer none, .int .i64 x, .int .i64 y, .int .i64 o] w fun e w' => e = .returned (.int .i64 o) ∧ Below w.heap.size w w' := by
  have L0 := Lib.hid (fun w => Number_nil x y w)
  go_enter Try.func19, Try.ntmps19
  go_wp2_with fail
  refine (L0.out _).mono ?_
  rintro e w1 ⟨rfl, b1⟩
  go_wp2_with fail
  go_ret
  exact ⟨rfl, b1⟩
set_option maxHeartbeats 1000000 in
theorem Words_nil (x : Int) (w : World) : Calls Try.prog 9 #[.pointer none, .int .i64 x] w fun e w' => e = .returned (.slice none 0 0) ∧ Below w.heap.size w w' := by
  have L0 := Lib.hid (fun w => number_nil x 0 0 w)
  go_enter Try.func9, Try.ntmps9
  go_wp2_with fail
  refine (L0.out _).mono ?_
  rintro e w1 ⟨rfl, b1⟩
  go_wp2_with fail
  go_loopw [5, 11] (fun a b wr => a = .slice none 0 0 ∧ b = .int .i64 0 ∧ Below w.heap.size w wr) (fun _ _ _ => 0)
  case atStart => exact ⟨rfl, rfl, b1⟩
  case round =>
    obtain ⟨rfl, rfl, bb⟩ := hrel
    go_wp2_with fail
    go_ret
    exact ⟨rfl, bb⟩
theorem Peers_nil (w : World) : Calls Try.prog 10 #[.pointer none] w fun e w' => e = .returned (.slice none 0 0) ∧ Below w.heap.size w w' := by
  have L0 := Lib.hid (fun w => Words_nil 4118 w)
  go_enter Try.func10, Try.ntmps10
  go_wp2_with fail
  refine (L0.out _).mono ?_
  rintro e w1 ⟨rfl, b1⟩
  go_wp2_with fail
  go_ret
  exact ⟨rfl, b1⟩
theorem Period_nil (w : World) : Calls Try.prog 11 #[.pointer none] w fun e w' => e = .returned (.int .i64 0) ∧ Below w.heap.size w w' := by
  have L0 := Lib.hid (fun w => number_nil 4119 0 0 w)
  go_enter Try.func11, Try.ntmps11
  go_wp2_with fail
  refine (L0.out _).mono ?_
  rintro e w1 ⟨rfl, b1⟩
  go_wp2_with fail
  go_ret
  exact ⟨rfl, b1⟩
theorem Sync_nil (w : World) : Calls Try.prog 8 #[.pointer none] w fun e w' => e = .returned (.tuple #[.int .u32 0, .int .i64 0, .bool false]) ∧ Below w.heap.size w w' := by
  have L0 := Lib.hid (fun w => Number_nil 4101 0 w)
  go_enter Try.func8, Try.ntmps8
  go_wp2_with fail
  refine (L0.out _).mono ?_
  rintro e w1 ⟨rfl, b1⟩
  go_wp2_with fail
  go_ret3
  exact ⟨rfl, b1⟩
set_option maxHeartbeats 1000000 in
theorem Rpdo_nil (k : Int) (w : World) : Calls Try.prog 6 #[.pointer none, .int .i64 k] w fun e w' => e = .returned (.tuple #[.agg #[.int .u32 0, .int .i64 0, .slice none 0 0], .bool false]) ∧ Below w.heap.size w w' := by
  have L0 := Lib.hid (fun w => Number_nil (5120 + k) 1 w)
  have b0 := alloc_one w (.cells #[.int .u32 0, .int .i64 0, .slice none 0 0] 31)
  have K0 := Blk.new w 31 #[.int .u32 0, .int .i64 0, .slice none 0 0]
  have F0 := K0.three
  rcases (show k < 0 ∨ 4 ≤ k ∨ (0 ≤ k ∧ k < 4) by omega) with hk | hk | ⟨hk1, hk2⟩
  case inr.inr =>
    go_enter Try.func6, Try.ntmps6
    go_wp2_with fail
    refine (L0.out _).mono ?_
    rintro e w1 ⟨rfl, b1⟩
    have K1 := K0.later b1
    have F1 := K1.three
    have RS1 := (K1.store3 (.int .u32 0) (.int .i64 0) (.slice none 0 0)).three
    have bs1 := below_set3 (below_step b0 b1 (Nat.le_refl _)) (Nat.le_refl w.heap.size) 0 1 2 (.int .u32 0) (.int .i64 0) (.slice none 0 0)
    clear F0
    go_wp2_with fail
    exact bodyPost_ret (v := .tuple #[.agg #[.int .u32 0, .int .i64 0, .slice none 0 0], .bool false]) (by simp [results, Try.results6, go_sem, RS1]) rfl ⟨rfl, bs1⟩
  all_goals
    go_enter Try.func6, Try.ntmps6
    go_wp2_with fail
    exact bodyPost_ret (v := .tuple #[.agg #[.int .u32 0, .int .i64 0, .slice none 0 0], .bool false]) (by simp [results, Try.results6, go_sem, F0]) rfl ⟨rfl, b0⟩
set_option maxHeartbeats 1000000 in
theorem Tpdo_nil (k : Int) (w : World) : Calls Try.prog 7 #[.pointer none, .int .i64 k] w fun e w' => e = .returned (.tuple #[.agg #[.int .u32 0, .int .i64 0, .int .i64 0, .int .i64 0, .slice none 0 0], .bool false]) ∧ Below w.heap.size w w' := by
  have L0 := Lib.hid (fun w => Number_nil (6144 + k) 1 w)
  have b0 := alloc_one w (.cells #[.int .u32 0, .int .i64 0, .int .i64 0, .int .i64 0, .slice none 0 0] 35)
  have K0 := Blk.new w 35 #[.int .u32 0, .int .i64 0, .int .i64 0, .int .i64 0, .slice none 0 0]
  have F0 := K0.cin
  rcases (show k < 0 ∨ 4 ≤ k ∨ (0 ≤ k ∧ k < 4) by omega) with hk | hk | ⟨hk1, hk2⟩
  case inr.inr =>
    go_enter Try.func7, Try.ntmps7
    go_wp2_with fail
    refine (L0.out _).mono ?_
    rintro e w1 ⟨rfl, b1⟩
    have K1 := K0.later b1
    have F1 := K1.cin
    have RS1 := (K1.store5 (.int .u32 0) (.int .i64 0) (.int .i64 0) (.int .i64 0) (.slice none 0 0)).cin
    have bs1 := below_set5 (below_step b0 b1 (Nat.le_refl _)) (Nat.le_refl w.heap.size) (.int .u32 0) (.int .i64 0) (.int .i64 0) (.int .i64 0) (.slice none 0 0)
    clear F0
    go_wp2_with fail
    exact bodyPost_ret (v := .tuple #[.agg #[.int .u32 0, .int .i64 0, .int .i64 0, .int .i64 0, .slice none 0 0], .bool false]) (by simp [results, Try.results7, go_sem, RS1]) rfl ⟨rfl, bs1⟩
  all_goals
    go_enter Try.func7, Try.ntmps7
    go_wp2_with fail
    exact bodyPost_ret (v := .tuple #[.agg #[.int .u32 0, .int .i64 0, .int .i64 0, .int .i64 0, .slice none 0 0], .bool false]) (by simp [results, Try.results7, go_sem, F0]) rfl ⟨rfl, b0⟩
theorem Guard_nil (i j : Int) (A : Option Addr) (n c : Nat) (w : World) : Calls Try.prog 12 #[.pointer none, .agg #[.int .i64 i, .int .i64 j, .slice A n c]] w fun e w' => e = .returned (.int .u32 100925511) ∧ Below w.heap.size w w' := by
  have b0 := alloc_one w (.cells #[.int .i64 i, .int .i64 j, .slice A n c] 24)
  have F0 := (Blk.new w 24 #[.int .i64 i, .int .i64 j, .slice A n c]).three
  have L0 := Lib.hid (fun w => dMay_nil i j A n c w)
  go_enter Try.func12, Try.ntmps12
  go_wp2_with fail
  refine (L0.out _).mono ?_
  rintro e _ ⟨rfl, rfl⟩
  go_wp2_with fail
  go_ret
  exact ⟨rfl, b0⟩
end Go.Proofs.Ytgkhpebhhkdgoaa
/-
  Arguments of the statements of layer 33.
  Conditions: none.
-/
namespace Go.Proofs.Ytgkhpebhhkdgoaa
set_option linter.unusedVariables false
set_option linter.unusedSimpArgs false
open Go.ChangeShapes Go.WideShapes Go.ChangeAt Go.RowKit
section
variable {H : Type} {enc : TypeId × Value → H} {w : World} {spare : Nat → Bool} {held : Bool}
set_option maxRecDepth 100000 in
theorem open_value {r : Reach} {b0 : Nat} {v : Value} {d : DataW H} {p : List MemPlace} (hv : Value.okWide Try.prog w r b0 24 v) (h : DataW.Trod enc Try.prog w 0 spare held 24 v d p) :
    ∃ (i j : Int) (A : Option Addr) (n c : Nat) (bs : List UInt8), v = .agg #[.int .i64 i, .int .i64 j, .slice A n c] ∧ (Lit.int .i64 i).wf = true ∧ (Lit.int .i64 j).wf = true ∧ RB w w.heap.size A n c bs := by
  obtain ⟨cs, rfl, hsz⟩ := okWide_struct Try.underlying24 hv
  obtain ⟨fuel, hf⟩ := h
  have t2 : DataW.trod enc Try.prog w 0 spare held fuel 24 cs.toList = some (d, p) := by simpa [Value.cells] using hf
  have h3 : cs.toList.length = 3 := trod_len Try.underlying24 t2 (by kernel_rfl)
  obtain ⟨l, hl⟩ : ∃ l, l = cs.toList := ⟨_, rfl⟩
  rw [← hl] at h3 t2
  match l, h3 with
  | [c, e, f], _ =>
    obtain ⟨_, _, t3⟩ := trod_one Try.underlying24 t2 0 3 0 c rfl (by kernel_rfl) rfl
    obtain ⟨_, _, t4⟩ := trod_one Try.underlying24 t2 1 3 1 e rfl (by kernel_rfl) rfl
    obtain ⟨_, _, t5⟩ := trod_one Try.underlying24 t2 2 22 2 f rfl (by kernel_rfl) rfl
    obtain ⟨i, rfl, wi⟩ := cell_int Try.underlying3 t3
    obtain ⟨j, rfl, wj⟩ := cell_int Try.underlying3 t4
    obtain ⟨A2, n2, c2, bs, rfl, r2⟩ := cell_bytes Try.underlying22 Try.underlying5 (by kernel_rfl) t5
    refine ⟨i, j, A2, n2, c2, bs, ?_, wi, wj, r2⟩
    rw [← Array.toArray_toList (xs := cs), ← hl]
end
end Go.Proofs.Ytgkhpebhhkdgoaa
