/-
  Texts joined: PrmKnown, PrmOpen, Made.
  Conditions: none.
-/
import Derived.Test.YtgkhpebhhkdgoaaGreatJ11
import Derived.Test.YtgkhpebhhkdgoaaGreatJ14
import Derived.Test.YtgkhpebhhkdgoaaGreatJ15
import Derived.Test.YtgkhpebhhkdgoaaGreatJ18
import Derived.Test.YtgkhpebhhkdgoaaGreatJ21
import Derived.KernelRfl
import Derived.Lib.SlBytesConst
/-
  Walk: 'known' of the statements of layer 33.
  Conditions: none.
-/
namespace Go.Proofs.YtgkhpebhhkdgoaaGreat
set_option linter.unusedVariables false
set_option linter.unusedSimpArgs false
open Go.RowKit Go.Sort
theorem cell_mark (w : World) (C : Array Value) (e : TypeId) (fr : Nat × Nat) (p : Addr) : (w.alloc (.cells C e fr)).cell? p = (w.alloc (.cells C e)).cell? p := by
  simp only [World.cell?, World.alloc, Array.getElem?_push]
  by_cases h : p.block = w.heap.size
  · rw [if_pos h, if_pos h]
  · rw [if_neg h, if_neg h]
theorem RB.mark {w : World} {C : Array Value} {e : TypeId} (fr : Nat × Nat) {B n c : Nat} {A : Option Addr} {l : List UInt8} (h : RB (w.alloc (.cells C e)) B A n c l) : RB (w.alloc (.cells C e fr)) B A n c l := h.keep fun p _ => cell_mark w C e fr p
theorem conv_const (w : World) (C : Array Value) (n c : Nat) : (convert 24 24 (.slice (some ⟨w.heap.size, 0, none⟩) n c)).run Tryz.prog (w.alloc (.cells C 5)) = .ok (.slice (some ⟨w.heap.size, 0, none⟩) n c) (w.alloc (.cells C 5 (C.size, C.size + 1))) := Lib.run_convert_bytes_const w 24 5 C n c Tryz.underlying24 Tryz.underlying5
def ks33 : Ent.En := ⟨4112, 1, [119], 7, 4, false, false, 0, 0, 4294967295, [0, 0, 0, 0]⟩
def kc33 : Ent.En := ⟨5120, 1, [119], 7, 4, false, false, 0, 0, 4294967295, [5, 2, 0, 0]⟩
def kd33 : Dc.Dic := ⟨[ks33, kc33], [[0, 0, 0, 0], [5, 2, 0, 0]]⟩
theorem k33new : Dc.newS [ks33, kc33] = (0, 0) := by kernel_rfl
theorem k33rpdo : Pm.rpdoS kd33 0 = some (517, 255, []) := by kernel_rfl
theorem k33num : Pm.numS kd33 5120 1 = (517, true) := by kernel_rfl
theorem k33may1 : Dc.mayS kd33.l false 4112 1 [115, 97, 118, 95] = 0 := by kernel_rfl
theorem k33may2 : Dc.mayS kd33.l false 5120 1 [1, 0, 0, 0] = 0 := by kernel_rfl
theorem k33ask1 : Pm.askS kd33 (Dc.pokeS kd33 4112 1 [115, 97, 118, 95]) 4112 1 = some 134217760 := by kernel_rfl
theorem k33ask2 : Pm.askS kd33 (Dc.pokeS kd33 5120 1 [1, 0, 0, 0]) 5120 1 = some 100925507 := by kernel_rfl
theorem k33g1 {r : Int} (h : Pm.Guards kd33 4112 1 [115, 97, 118, 95] r) : r = 134217760 := by
  unfold Pm.Guards at h
  rw [k33may1, if_neg (by decide)] at h
  exact h _ k33ask1
theorem k33g2 {r : Int} (h : Pm.Guards kd33 5120 1 [1, 0, 0, 0] r) : r = 100925507 := by
  unfold Pm.Guards at h
  rw [k33may2, if_neg (by decide)] at h
  exact h _ k33ask2
theorem k33dflt : ∀ e ∈ kd33.l, e.dflt.length ≤ 1000000 := by intro e he; simp only [kd33, List.mem_cons, List.not_mem_nil, or_false] at he; rcases he with rfl | rfl <;> decide
theorem k33vals : ∀ v ∈ kd33.v, v.length ≤ 1000000 := by intro v hv; simp only [kd33, List.mem_cons, List.not_mem_nil, or_false] at hv; rcases hv with rfl | rfl <;> decide
theorem k33fine : Dc.Fine kd33 := Dc.Fine.new (es := [ks33, kc33]) (by rw [k33new]) (by intro e he; simp only [List.mem_cons, List.not_mem_nil, or_false] at he; rcases he with rfl | rfl <;> decide)
def w33 (w : World) : World := (((((w.alloc (.cells #[.int .u8 0, .int .u8 0, .int .u8 0, .int .u8 0] 5)).alloc (.cells #[.int .i64 0, .int .i64 0, .string (T [119]), .int .i64 7, .int .i64 4, .bool false, .bool false, .int .i64 0, .int .i64 0, .int .i64 4294967295, .slice (some ⟨w.heap.size, 0, none⟩) 4 4] 82)).alloc (.cells #[.int .i64 5120, .int .i64 1, .string (T [119]), .int .i64 7, .int .i64 4, .bool false, .bool false, .int .i64 0, .int .i64 0, .int .i64 4294967295, .slice (some ⟨w.heap.size + 1 + 1 + 1, 0, none⟩) 4 4] 82)).alloc (.cells #[.int .u8 5, .int .u8 2, .int .u8 0, .int .u8 0] 5)).alloc (.cells #[.int .i64 4112, .int .i64 1, .string (T [119]), .int .i64 7, .int .i64 4, .bool false, .bool false, .int .i64 0, .int .i64 0, .int .i64 4294967295, .slice (some ⟨w.heap.size, 0, none⟩) 4 4] 82)).alloc (.cells #[.int .i64 4112, .int .i64 1, .string (T [119]), .int .i64 7, .int .i64 4, .bool false, .bool false, .int .i64 0, .int .i64 0, .int .i64 4294967295, .slice (some ⟨w.heap.size, 0, none⟩) 4 4, .int .i64 5120, .int .i64 1, .string (T [119]), .int .i64 7, .int .i64 4, .bool false, .bool false, .int .i64 0, .int .i64 0, .int .i64 4294967295, .slice (some ⟨w.heap.size + 1 + 1 + 1, 0, none⟩) 4 4] 82)
theorem k33world (w : World) : Below w.heap.size w (w33 w) ∧ REn (w33 w) (w.heap.size + 1 + 1 + 1 + 1 + 1 + 1) (w.heap.size + 1 + 1 + 1 + 1) (some ⟨w.heap.size + 1 + 1 + 1 + 1 + 1, 0, none⟩) 2 2 [ks33, kc33] ∧ (w33 w).heap.size = w.heap.size + 1 + 1 + 1 + 1 + 1 + 1 := by
  have hs : ∀ (w : World) (o : Obj), (w.alloc o).heap.size = w.heap.size + 1 := fun w o => by simp
  unfold w33
  have a0 := alloc_one w (.cells #[.int .u8 0, .int .u8 0, .int .u8 0, .int .u8 0] 5)
  have r0 := RB.lit w [.int .u8 0, .int .u8 0, .int .u8 0, .int .u8 0] [0, 0, 0, 0] rfl (n := 4) rfl (by omega)
  have s0 := hs w (.cells #[.int .u8 0, .int .u8 0, .int .u8 0, .int .u8 0] 5)
  generalize w.alloc (.cells #[.int .u8 0, .int .u8 0, .int .u8 0, .int .u8 0] 5) = u0 at *
  have a1 := alloc_one u0 (.cells #[.int .i64 0, .int .i64 0, .string (T [119]), .int .i64 7, .int .i64 4, .bool false, .bool false, .int .i64 0, .int .i64 0, .int .i64 4294967295, .slice (some ⟨w.heap.size, 0, none⟩) 4 4] 82)
  have s1 := hs u0 (.cells #[.int .i64 0, .int .i64 0, .string (T [119]), .int .i64 7, .int .i64 4, .bool false, .bool false, .int .i64 0, .int .i64 0, .int .i64 4294967295, .slice (some ⟨w.heap.size, 0, none⟩) 4 4] 82)
  generalize u0.alloc (.cells #[.int .i64 0, .int .i64 0, .string (T [119]), .int .i64 7, .int .i64 4, .bool false, .bool false, .int .i64 0, .int .i64 0, .int .i64 4294967295, .slice (some ⟨w.heap.size, 0, none⟩) 4 4] 82) = u1 at *
  have a2 := alloc_one u1 (.cells #[.int .i64 5120, .int .i64 1, .string (T [119]), .int .i64 7, .int .i64 4, .bool false, .bool false, .int .i64 0, .int .i64 0, .int .i64 4294967295, .slice (some ⟨w.heap.size + 1 + 1 + 1, 0, none⟩) 4 4] 82)
  have s2 := hs u1 (.cells #[.int .i64 5120, .int .i64 1, .string (T [119]), .int .i64 7, .int .i64 4, .bool false, .bool false, .int .i64 0, .int .i64 0, .int .i64 4294967295, .slice (some ⟨w.heap.size + 1 + 1 + 1, 0, none⟩) 4 4] 82)
  generalize u1.alloc (.cells #[.int .i64 5120, .int .i64 1, .string (T [119]), .int .i64 7, .int .i64 4, .bool false, .bool false, .int .i64 0, .int .i64 0, .int .i64 4294967295, .slice (some ⟨w.heap.size + 1 + 1 + 1, 0, none⟩) 4 4] 82) = u2 at *
  have a3 := alloc_one u2 (.cells #[.int .u8 5, .int .u8 2, .int .u8 0, .int .u8 0] 5)
  have r3 := RB.lit u2 [.int .u8 5, .int .u8 2, .int .u8 0, .int .u8 0] [5, 2, 0, 0] rfl (n := 4) rfl (by omega)
  have s3 := hs u2 (.cells #[.int .u8 5, .int .u8 2, .int .u8 0, .int .u8 0] 5)
  generalize u2.alloc (.cells #[.int .u8 5, .int .u8 2, .int .u8 0, .int .u8 0] 5) = u3 at *
  have a4 := alloc_one u3 (.cells #[.int .i64 4112, .int .i64 1, .string (T [119]), .int .i64 7, .int .i64 4, .bool false, .bool false, .int .i64 0, .int .i64 0, .int .i64 4294967295, .slice (some ⟨w.heap.size, 0, none⟩) 4 4] 82)
  have s4 := hs u3 (.cells #[.int .i64 4112, .int .i64 1, .string (T [119]), .int .i64 7, .int .i64 4, .bool false, .bool false, .int .i64 0, .int .i64 0, .int .i64 4294967295, .slice (some ⟨w.heap.size, 0, none⟩) 4 4] 82)
  generalize u3.alloc (.cells #[.int .i64 4112, .int .i64 1, .string (T [119]), .int .i64 7, .int .i64 4, .bool false, .bool false, .int .i64 0, .int .i64 0, .int .i64 4294967295, .slice (some ⟨w.heap.size, 0, none⟩) 4 4] 82) = u4 at *
  have a5 := alloc_one u4 (.cells #[.int .i64 4112, .int .i64 1, .string (T [119]), .int .i64 7, .int .i64 4, .bool false, .bool false, .int .i64 0, .int .i64 0, .int .i64 4294967295, .slice (some ⟨w.heap.size, 0, none⟩) 4 4, .int .i64 5120, .int .i64 1, .string (T [119]), .int .i64 7, .int .i64 4, .bool false, .bool false, .int .i64 0, .int .i64 0, .int .i64 4294967295, .slice (some ⟨w.heap.size + 1 + 1 + 1, 0, none⟩) 4 4] 82)
  have rl := RV.lit u4 82 2 (size := 11) (cs := [.int .i64 4112, .int .i64 1, .string (T [119]), .int .i64 7, .int .i64 4, .bool false, .bool false, .int .i64 0, .int .i64 0, .int .i64 4294967295, .slice (some ⟨w.heap.size, 0, none⟩) 4 4, .int .i64 5120, .int .i64 1, .string (T [119]), .int .i64 7, .int .i64 4, .bool false, .bool false, .int .i64 0, .int .i64 0, .int .i64 4294967295, .slice (some ⟨w.heap.size + 1 + 1 + 1, 0, none⟩) 4 4]) rfl (by omega)
  have s5 := hs u4 (.cells #[.int .i64 4112, .int .i64 1, .string (T [119]), .int .i64 7, .int .i64 4, .bool false, .bool false, .int .i64 0, .int .i64 0, .int .i64 4294967295, .slice (some ⟨w.heap.size, 0, none⟩) 4 4, .int .i64 5120, .int .i64 1, .string (T [119]), .int .i64 7, .int .i64 4, .bool false, .bool false, .int .i64 0, .int .i64 0, .int .i64 4294967295, .slice (some ⟨w.heap.size + 1 + 1 + 1, 0, none⟩) 4 4] 82)
  rw [s0] at s1
  rw [s1] at s2
  rw [s2] at s3 r3
  rw [s3] at s4
  rw [s4] at s5 rl
  have b35 := below_step a4 a5 (Nat.le_refl _)
  have b05 := below_step (below_step (below_step a1 a2 (Nat.le_refl _)) a3 (Nat.le_refl _)) b35 (Nat.le_refl _)
  refine ⟨below_step a0 b05 (Nat.le_refl _), ⟨_, rl, ?_⟩, s5⟩
  have h1 : EnC (u4.alloc (.cells #[.int .i64 4112, .int .i64 1, .string (T [119]), .int .i64 7, .int .i64 4, .bool false, .bool false, .int .i64 0, .int .i64 0, .int .i64 4294967295, .slice (some ⟨w.heap.size, 0, none⟩) 4 4, .int .i64 5120, .int .i64 1, .string (T [119]), .int .i64 7, .int .i64 4, .bool false, .bool false, .int .i64 0, .int .i64 0, .int .i64 4294967295, .slice (some ⟨w.heap.size + 1 + 1 + 1, 0, none⟩) 4 4] 82)) (w.heap.size + 1 + 1 + 1 + 1) ks33 (enL ks33 (some ⟨w.heap.size, 0, none⟩) 4 4) := ⟨_, _, _, rfl, (r0.below (b05.mono (by omega))).more (by omega)⟩
  have h2 : EnC (u4.alloc (.cells #[.int .i64 4112, .int .i64 1, .string (T [119]), .int .i64 7, .int .i64 4, .bool false, .bool false, .int .i64 0, .int .i64 0, .int .i64 4294967295, .slice (some ⟨w.heap.size, 0, none⟩) 4 4, .int .i64 5120, .int .i64 1, .string (T [119]), .int .i64 7, .int .i64 4, .bool false, .bool false, .int .i64 0, .int .i64 0, .int .i64 4294967295, .slice (some ⟨w.heap.size + 1 + 1 + 1, 0, none⟩) 4 4] 82)) (w.heap.size + 1 + 1 + 1 + 1) kc33 (enL kc33 (some ⟨w.heap.size + 1 + 1 + 1, 0, none⟩) 4 4) := ⟨_, _, _, rfl, r3.below (b35.mono (by omega))⟩
  exact (Rows.one h1 rfl).append (Rows.one h2 rfl)
set_option maxHeartbeats 1000000 in
theorem Command_save (w : World) {A : Option Addr} {n c B : Nat} (h : RB w B A n c [115, 97, 118, 101]) (hB : B ≤ w.heap.size) : Calls Tryz.prog 8 #[.agg #[.int .i64 4112, .int .i64 1, .slice A n c]] w fun e w' => e = .returned (.tuple #[.int .i64 1, .int .i64 1]) ∧ Below w.heap.size w w' := by
  have b0 := alloc_one w (.cells #[.int .i64 4112, .int .i64 1, .slice A n c] 26)
  have F0 := (Blk.new w 26 #[.int .i64 4112, .int .i64 1, .slice A n c]).three
  have e1 := convb (h.below ((alloc_one w (.cells #[.int .i64 4112, .int .i64 1, .slice A n c] 26)).mono hB))
  clear h
  go_enter Tryz.func8, Tryz.ntmps8
  go_wp2_with fail
  go_quiet (fail)
  go_wp2_with fail
  go_ret2
  exact ⟨rfl, below_drewN b0 nq⟩
set_option maxRecDepth 100000 in
set_option maxHeartbeats 8000000 in
theorem known33_any (w : World) : Calls Tryz.prog 7 #[] w fun e w' => e = .returned (.bool true) ∧ Below w.heap.size w w' := by
  obtain ⟨b0, F, hz⟩ := k33world w
  have NW := dNew_any (w33 w) F (by omega) (by omega) (by intro e he; simp only [List.mem_cons, List.not_mem_nil, or_false] at he; rcases he with rfl | rfl <;> decide)
  unfold NewPost at NW
  rw [k33new] at NW
  replace NW := Lib.hid NW
  have B0 := Lib.hid b0
  clear b0 F hz
  unfold w33 at NW B0
  go_enter Tryz.func7, Tryz.ntmps7
  go_wp2_with fail
  refine (NW.out).mono ?_
  rintro e w1 (⟨_, b1, g, gv, lc, vc, la, vA, xs, vs, rfl, hd⟩ | ⟨h0, _⟩)
  case inr => exact absurd rfl h0
  have d1 := below_step B0.out b1 (Nat.le_refl _)
  replace hd := hd.cut
  rw [show (⟨[ks33, kc33], [ks33, kc33].map (·.dflt)⟩ : Dc.Dic) = kd33 from rfl] at hd
  clear NW b1 B0
  have RP := Rpdo_any 0 hd k33dflt k33vals
  rw [k33rpdo] at RP
  unfold RpP at RP
  replace RP := Lib.hid RP
  go_wp2_with fail
  refine (RP.out).mono ?_
  rintro e w2 ⟨A2, c2, rfl, o2, b2⟩
  try dsimp only at o2
  have a3 := alloc_one w2 (.cells #[.int .u32 517, .int .i64 255, .slice A2 0 c2] 43)
  have K3 := Blk.new w2 43 #[.int .u32 517, .int .i64 255, .slice A2 0 c2]
  have b23 := below_step b2 a3 (Nat.le_refl _)
  have d3 := below_step d1 b23 (Nat.le_refl _)
  replace hd := hd.below b23
  have NU := Number_any 5120 1 hd k33dflt k33vals
  rw [k33num] at NU
  replace NU := Lib.hid NU
  clear RP d1 b2 a3 b23 o2
  go_wp2_with fail
  refine (NU.out).mono ?_
  rintro e w4 ⟨rfl, b4⟩
  have d4 := below_step d3 b4 (Nat.le_refl _)
  replace hd := hd.below b4
  have K4 := K3.later b4
  have a5 := alloc_one w4 (.cells #[.int .u8 115, .int .u8 97, .int .u8 118, .int .u8 101] 5 (4, 5))
  have cv5 : (convert 24 24 (.slice (some ⟨w4.heap.size, 0, none⟩) 4 4)).run Tryz.prog (w4.alloc (.cells #[.int .u8 115, .int .u8 97, .int .u8 118, .int .u8 101] 5)) = .ok (.slice (some ⟨w4.heap.size, 0, none⟩) 4 4) (w4.alloc (.cells #[.int .u8 115, .int .u8 97, .int .u8 118, .int .u8 101] 5 (4, 5))) := conv_const w4 _ 4 4
  have r5 := (RB.lit w4 [.int .u8 115, .int .u8 97, .int .u8 118, .int .u8 101] [115, 97, 118, 101] rfl (n := 4) rfl (by omega)).mark (4, 5)
  have CM := Lib.hid (Command_save _ r5 (by simp))
  have d5 := below_step d4 a5 (Nat.le_refl _)
  replace hd := hd.below a5
  have K5 := K4.later a5
  clear NU K3 d3 d4 r5
  go_wp2_with fail
  refine (CM.out).mono ?_
  rintro e w6 ⟨rfl, b6⟩
  have d6 := below_step d5 b6 (Nat.le_refl _)
  replace hd := hd.below b6
  have K6 := (K5.later b6).three
  have a7 := alloc_one w6 (.cells #[.int .u8 115, .int .u8 97, .int .u8 118, .int .u8 95] 5 (4, 5))
  have cv7 : (convert 24 24 (.slice (some ⟨w6.heap.size, 0, none⟩) 4 4)).run Tryz.prog (w6.alloc (.cells #[.int .u8 115, .int .u8 97, .int .u8 118, .int .u8 95] 5)) = .ok (.slice (some ⟨w6.heap.size, 0, none⟩) 4 4) (w6.alloc (.cells #[.int .u8 115, .int .u8 97, .int .u8 118, .int .u8 95] 5 (4, 5))) := conv_const w6 _ 4 4
  have r7 := (RB.lit w6 [.int .u8 115, .int .u8 97, .int .u8 118, .int .u8 95] [115, 97, 118, 95] rfl (n := 4) rfl (by omega)).mark (4, 5)
  have d7 := below_step d6 a7 (Nat.le_refl _)
  replace hd := hd.below a7
  have G1 := Lib.hid (Guard_any 4112 1 hd k33dflt k33fine r7 (by simp) (by omega))
  clear CM K4 K5 d5 d6 r7
  go_wp2_with fail
  refine (G1.out).mono ?_
  rintro e w8 ⟨⟨r, rfl, hr⟩, b8⟩
  obtain rfl := k33g1 hr
  have d8 := below_step d7 b8 (Nat.le_refl _)
  replace hd := hd.below b8
  have a9 := alloc_one w8 (.cells #[.int .u8 1, .int .u8 0, .int .u8 0, .int .u8 0] 5)
  have r9 := RB.lit w8 [.int .u8 1, .int .u8 0, .int .u8 0, .int .u8 0] [1, 0, 0, 0] rfl (n := 4) rfl (by omega)
  have d9 := below_step d8 a9 (Nat.le_refl _)
  replace hd := hd.below a9
  have G2 := Lib.hid (Guard_any 5120 1 hd k33dflt k33fine r9 (by simp) (by omega))
  clear G1 K6 d7 d8 r9 hr
  go_wp2_with fail
  refine (G2.out).mono ?_
  rintro e w10 ⟨⟨r, rfl, hr⟩, b10⟩
  obtain rfl := k33g2 hr
  go_wp2_with fail
  go_ret
  exact ⟨rfl, below_step d9 b10 (Nat.le_refl _)⟩
end Go.Proofs.YtgkhpebhhkdgoaaGreat
/-
  Arguments of the statements of layer 33.
  Conditions: none.
-/
namespace Go.Proofs.YtgkhpebhhkdgoaaGreat
set_option linter.unusedVariables false
set_option linter.unusedSimpArgs false
open Go.ChangeShapes Go.WideShapes Go.ChangeAt Go.RowKit
section
variable {H : Type} {enc : TypeId × Value → H} {w : World} {spare : Nat → Bool} {held : Bool}
set_option maxRecDepth 100000 in
theorem open_case33 {r : Reach} {b0 : Nat} {v : Value} {d : DataW H} {p : List MemPlace} (hv : Value.okWide Tryz.prog w r b0 28 v) (h : DataW.Trod enc Tryz.prog w 0 spare held 28 v d p) :
    ∃ (A0 A1 A2 : Option Addr) (n0 c0 n1 c1 n2 c2 : Nat) (xi xj : Int) (es : List Ent.En) (vs : List Dc.Vl) (bs : List UInt8), v = .agg #[.slice A0 n0 c0, .slice A1 n1 c1, .int .i64 xi, .int .i64 xj, .slice A2 n2 c2] ∧
      REn w w.heap.size w.heap.size A0 n0 c0 es ∧ (∀ e ∈ es, e.name.length ≤ 9223372036854775807) ∧ RVl w w.heap.size w.heap.size A1 n1 c1 vs ∧ (Lit.int .i64 xi).wf = true ∧ (Lit.int .i64 xj).wf = true ∧ RB w w.heap.size A2 n2 c2 bs := by
  obtain ⟨cs, rfl, hsz⟩ := okWide_struct Tryz.underlying28 hv
  obtain ⟨fuel, hf⟩ := h
  have hf' : DataW.trod enc Tryz.prog w 0 spare held fuel 28 cs.toList = some (d, p) := by simpa [Value.cells] using hf
  have h3 : cs.toList.length = 5 := trod_len Tryz.underlying28 hf' (by kernel_rfl)
  obtain ⟨l, hl⟩ : ∃ l, l = cs.toList := ⟨_, rfl⟩
  rw [← hl] at h3 hf'
  match l, h3 with
  | [a, b, c, e, f], _ =>
    obtain ⟨_, _, t0⟩ := trod_one Tryz.underlying28 hf' 0 22 0 a rfl (by kernel_rfl) rfl
    obtain ⟨_, _, t1⟩ := trod_one Tryz.underlying28 hf' 1 23 1 b rfl (by kernel_rfl) rfl
    obtain ⟨_, _, t2⟩ := trod_part Tryz.underlying28 hf' 2 26 2 3 rfl (by kernel_rfl)
    obtain ⟨_, _, t3⟩ := trod_one Tryz.underlying26 t2 0 3 0 c rfl (by kernel_rfl) rfl
    obtain ⟨_, _, t4⟩ := trod_one Tryz.underlying26 t2 1 3 1 e rfl (by kernel_rfl) rfl
    obtain ⟨_, _, t5⟩ := trod_one Tryz.underlying26 t2 2 24 2 f rfl (by kernel_rfl) rfl
    obtain ⟨A0, n0, c0, es, rfl, r0, r0'⟩ := cell_entries t0
    obtain ⟨A1, n1, c1, vs, rfl, r1⟩ := cell_values t1
    obtain ⟨i, rfl, wi⟩ := cell_int Tryz.underlying3 t3
    obtain ⟨j, rfl, wj⟩ := cell_int Tryz.underlying3 t4
    obtain ⟨A2, n2, c2, bs, rfl, r2⟩ := cell_bytes Tryz.underlying24 Tryz.underlying5 (by kernel_rfl) t5
    refine ⟨A0, A1, A2, n0, c0, n1, c1, n2, c2, i, j, es, vs, bs, ?_, r0, r0', r1, wi, wj, r2⟩
    rw [← Array.toArray_toList (xs := cs), ← hl]
set_option maxRecDepth 100000 in
theorem open_value {r : Reach} {b0 : Nat} {v : Value} {d : DataW H} {p : List MemPlace} (hv : Value.okWide Tryz.prog w r b0 26 v) (h : DataW.Trod enc Tryz.prog w 0 spare held 26 v d p) :
    ∃ (i j : Int) (A : Option Addr) (n c : Nat) (bs : List UInt8), v = .agg #[.int .i64 i, .int .i64 j, .slice A n c] ∧ (Lit.int .i64 i).wf = true ∧ (Lit.int .i64 j).wf = true ∧ RB w w.heap.size A n c bs := by
  obtain ⟨cs, rfl, hsz⟩ := okWide_struct Tryz.underlying26 hv
  obtain ⟨fuel, hf⟩ := h
  have t2 : DataW.trod enc Tryz.prog w 0 spare held fuel 26 cs.toList = some (d, p) := by simpa [Value.cells] using hf
  have h3 : cs.toList.length = 3 := trod_len Tryz.underlying26 t2 (by kernel_rfl)
  obtain ⟨l, hl⟩ : ∃ l, l = cs.toList := ⟨_, rfl⟩
  rw [← hl] at h3 t2
  match l, h3 with
  | [c, e, f], _ =>
    obtain ⟨_, _, t3⟩ := trod_one Tryz.underlying26 t2 0 3 0 c rfl (by kernel_rfl) rfl
    obtain ⟨_, _, t4⟩ := trod_one Tryz.underlying26 t2 1 3 1 e rfl (by kernel_rfl) rfl
    obtain ⟨_, _, t5⟩ := trod_one Tryz.underlying26 t2 2 24 2 f rfl (by kernel_rfl) rfl
    obtain ⟨i, rfl, wi⟩ := cell_int Tryz.underlying3 t3
    obtain ⟨j, rfl, wj⟩ := cell_int Tryz.underlying3 t4
    obtain ⟨A2, n2, c2, bs, rfl, r2⟩ := cell_bytes Tryz.underlying24 Tryz.underlying5 (by kernel_rfl) t5
    refine ⟨i, j, A2, n2, c2, bs, ?_, wi, wj, r2⟩
    rw [← Array.toArray_toList (xs := cs), ← hl]
end
end Go.Proofs.YtgkhpebhhkdgoaaGreat
/-
  Walk: 'made' of the statements of layer 33.
  Conditions: none.
-/
namespace Go.Proofs.YtgkhpebhhkdgoaaGreat
set_option linter.unusedVariables false
set_option linter.unusedSimpArgs false
open Go.RowKit
/-- What 'made' hands back: two dictionaries that are alike, or none. -/
def MadeP (nb : Nat) (w : World) (e : Ending) (w' : World) : Prop :=
  (e = .returned (.tuple #[.pointer none, .pointer none, .bool false]) ∧ Below w.heap.size w w') ∨
  (∃ g g' D, e = .returned (.tuple #[.pointer (some ⟨g, 0, none⟩), .pointer (some ⟨g', 0, none⟩), .bool true]) ∧ Below w.heap.size w w' ∧ nb ≤ 1000 ∧ Two w' w.heap.size g g' D D ∧ Dc.Fine D ∧ (∀ e ∈ D.l, e.dflt.length ≤ 1000))
theorem made_no {nb : Nat} {w w' : World} (hb : Below w.heap.size w w') : MadeP nb w (.returned (.tuple #[.pointer none, .pointer none, .bool false])) w' := .inl ⟨rfl, hb⟩
set_option maxRecDepth 100000 in
set_option maxHeartbeats 8000000 in
theorem made33_any {A0 A1 A2 : Option Addr} {n0 c0 n1 c1 n2 c2 B : Nat} {xi xj : Int} {es : List Ent.En} {vls : List Dc.Vl} (w : World) (h0 : REn w B B A0 n0 c0 es) (hnm : ∀ e ∈ es, e.name.length ≤ 9223372036854775807) (h1 : RVl w B B A1 n1 c1 vls) (hB : B ≤ w.heap.size) :
    Calls Tryz.prog 6 #[.agg #[.slice A0 n0 c0, .slice A1 n1 c1, .int .i64 xi, .int .i64 xj, .slice A2 n2 c2]] w (MadeP n2 w) := by
  have b0 := alloc_one w (.cells #[.slice A0 n0 c0, .slice A1 n1 c1, .int .i64 xi, .int .i64 xj, .slice A2 n2 c2] 28)
  have K := Blk.new w 28 #[.slice A0 n0 c0, .slice A1 n1 c1, .int .i64 xi, .int .i64 xj, .slice A2 n2 c2]
  have K4 := K.cin
  have L15 := Lib.hid (fun w' (hb : Below w.heap.size w w') => Light15_any w' (h0.below (hb.mono hB) (Nat.le_refl _)) hnm)
  have L18 := Lib.hid (fun w' (hb : Below w.heap.size w w') => Light18_any w' (h1.below (hb.mono hB) (Nat.le_refl _)))
  go_enter Tryz.func6, Tryz.ntmps6
  go_wp2_with fail
  refine (L15.out _ b0).mono ?_
  rintro e _ ⟨bl, rfl, rfl, hbl⟩
  cases bl
  · clear hbl
    go_wp2_with fail
    go_ret3
    exact made_no b0
  · obtain ⟨_, hes⟩ := hbl rfl
    clear hbl
    go_wp2_with fail
    refine (L18.out _ b0).mono ?_
    rintro e _ ⟨bl, rfl, rfl, hbl⟩
    cases bl
    · clear hbl
      go_wp2_with fail
      go_ret3
      exact made_no b0
    · obtain ⟨hv200, hvs⟩ := hbl rfl
      clear hbl
      by_cases h100 : False
      · exact absurd h100 (by simp)
      · clear h100
        by_cases h1000 : 1000 < n2
        · go_wp2_with fail
          go_ret3
          exact made_no b0
        · have ND := dNew_any _ (h0.below (b0.mono hB) (Nat.le_refl _)) (Nat.le_trans hB b0.size) (Nat.le_refl _) (fun e he => by have := hes e he; omega)
          have NR := fun w' (hb : Below w.heap.size w w') => rNew_any w' (h0.below (hb.mono hB) (Nat.le_refl _)) (Nat.le_trans hB hb.size) (Nat.le_refl _) (fun e he => by have := hes e he; omega)
          unfold NewPost at ND
          unfold RNewPost at NR
          have hfine := Dc.Fine.new (es := es)
          generalize hD : (⟨es, es.map (·.dflt)⟩ : Dc.Dic) = D0 at *
          have hDl : D0.l = es := by rw [← hD]
          clear hD
          generalize Dc.newS es = nn at *
          obtain ⟨ne, np⟩ := nn
          dsimp only at ND NR hfine
          have HL := Lib.hid h1.len
          replace ND := Lib.hid ND; replace NR := Lib.hid NR
          by_cases hne : ne = 0
          · subst hne
            have hf0 := Lib.hid (hfine rfl (fun e he => by have := hes e he; omega))
            have HDS := Lib.hid (show ∀ e ∈ D0.l, e.dflt.length ≤ 1000 by rw [hDl]; exact fun e he => (hes e he).2)
            clear hfine hDl
            go_wp2_with fail
            refine (ND.out).mono ?_
            rintro e w1 (⟨_, b1, g, gv, lc, vc, la, vA, xs, vs, rfl, hd⟩ | ⟨hx, _⟩)
            case inr => exact absurd rfl hx
            have d1 := below_step b0 b1 (Nat.le_refl _)
            have K1 := (K.later b1).cin
            clear K4
            go_wp2_with fail
            refine (NR.out _ d1).mono ?_
            rintro e w2 (⟨_, b2, g', gv', lc', vc', lA', vA', xs', vs', rfl, hd'⟩ | ⟨hx, _⟩)
            case inr => exact absurd rfl hx
            have TW := Two.new b1 b2 hd hd'
            have KK : Blk w2 w.heap.size 28 #[.slice A0 n0 c0, .slice A1 n1 c1, .int .i64 xi, .int .i64 xj, .slice A2 n2 c2] := (K.later b1).later b2
            have d2 := below_step d1 b2 (Nat.le_refl _)
            have d12 := below_step b1 b2 (Nat.le_refl _)
            clear hd hd' K1 b1 b2 d1 ND NR L15 L18 h0 hes K
            rw [World.size_alloc] at TW
            have hv1 := h1.lt
            go_wp2_with fail
            go_loopw [11] (fun i wr => ∃ k : Nat, k ≤ n1 ∧ i = .int .i64 k ∧ Below w.heap.size w wr ∧ Blk wr w.heap.size 28 #[.slice A0 n0 c0, .slice A1 n1 c1, .int .i64 xi, .int .i64 xj, .slice A2 n2 c2] ∧ Two wr (w.heap.size + 1) g g' (Dc.pokesS D0 (vls.take k)) (Dc.pokesS D0 (vls.take k))) (fun i _ => n1 - (intOf i).toNat)
            case atStart => exact ⟨0, by omega, rfl, d2, KK, TW⟩
            case round =>
              clear d2 KK TW d12
              obtain ⟨k, hk, rfl, bb, KK, TW⟩ := hrel
              have K4 := KK.cin
              by_cases hlt : k < n1
              · obtain ⟨b, o, A', n', c', rfl, hbB, q0, q1, q2, hr⟩ := (h1.below (bb.mono hB) (Nat.le_refl _)).at_ hlt
                have hpk := Dc.pokes_take D0 vls (k := k) (by rw [HL.out]; exact hlt)
                rw [show (⟨0, 0, []⟩ : Dc.Vl) = vl0 from rfl] at hpk
                have hdl : (vls.getD k vl0).data.length ≤ 2000 := by
                  have hm : vls.getD k vl0 ∈ vls := by
                    rw [List.getD_eq_getElem?_getD, List.getElem?_eq_getElem (by rw [HL.out]; exact hlt)]
                    exact List.getElem_mem _
                  exact hvs _ hm
                have hrl := hr.len
                generalize vls.getD k vl0 = v at *
                obtain ⟨vi, vsb, vd⟩ := v
                dsimp only at q0 q1 hr hpk hdl hrl
                generalize Dc.pokesS D0 (vls.take k) = DD at *
                have HPK := Lib.hid hpk
                clear hpk
                obtain ⟨F, F', t1, t2, t3⟩ := TW
                have hF := t1.lt
                have hF' := t2.lt
                have hGb : ¬ F w.heap.size := fun h => by have := hF _ h; omega
                have hGb' : ¬ F' w.heap.size := fun h => by have := hF' _ h; omega
                have hGv : ¬ F b := fun h => by have := hF _ h; omega
                have hGv' : ¬ F' b := fun h => by have := hF' _ h; omega
                have hz := bb.size
                have hw1 : w.heap.size + 1 ≤ wr.heap.size := KK.lt
                have k1 := cell_mv (G := F) K4.1.2.1 hGb
                have v0 := cell_mv (G := F) q0 hGv
                have v1 := cell_mv (G := F) q1 hGv
                have v2 := cell_mv (G := F) q2 hGv
                have PK := Lib.hid ((t1.below (below_drew wr)).poke hw1 vi vsb (hr.drew) (Nat.le_trans hB hz) (by omega))
                have i0 : (0 : Int) ≤ (k : Int) := by omega
                have i1 : (k : Int) < (n1 : Int) := by omega
                go_wp2_with fail
                refine region_mv 99 F (by kernel_rfl) ?_
                refine phase_mv (by kernel_rfl) 1 (Mv.refl _ _).drew [0, 1, 3, 7, 9, 13, 15, 2, 8, 14, 4, 10, 16, 5, 11, 17, 6, 12, 18] rfl (by kernel_rfl) ?_
                simp only [picks, nth]
                repeat (go_big_quiet_step (fail))
                refine wpQuiet_nil ?_
                refine phase_opL 19 0 rfl (by kernel_rfl) (by decide) ?_
                simp only [nth]
                go_wp2_with fail
                refine (PK.out).mono ?_
                rintro e w2 ⟨rfl, m2, b2, u1⟩
                have M2 : Mv F wr w2 := (Mv.of_new (below_drew wr) F).trans m2 fun _ _ h => h
                go_wp2_with fail
                refine behind_mv M2 ?_
                refine phase_endL (by kernel_rfl) ?_
                have b2' : Below (w.heap.size + 1) wr w2 := ((below_drew wr).mono hw1).trans b2
                have u2 := t2.mv M2 fun q _ hf hf2 => t3 q hf2 hf
                have KK2 := KK.mv M2 hGb
                have bb2 := bb.trans (b2'.mono (Nat.le_succ _))
                have hr2 := hr.below (b2'.mono (by omega))
                have K42 := KK2.cin
                have hz2 := bb2.size
                have hw2 : w.heap.size + 1 ≤ w2.heap.size := KK2.lt
                have q0' := (b2'.cell (p := ⟨b, o + k * 3, none⟩) (by dsimp only; omega)).trans q0
                have q1' := (b2'.cell (p := ⟨b, o + k * 3 + 1, none⟩) (by dsimp only; omega)).trans q1
                have q2' := (b2'.cell (p := ⟨b, o + k * 3 + 2, none⟩) (by dsimp only; omega)).trans q2
                clear k1 v0 v1 v2 K4 q0 q1 q2
                have k1 := cell_mv (G := F') K42.1.2.1 hGb'
                have v0 := cell_mv (G := F') q0' hGv'
                have v1 := cell_mv (G := F') q1' hGv'
                have v2 := cell_mv (G := F') q2' hGv'
                have PR := Lib.hid ((u2.below (below_drew w2)).poke hw2 vi vsb (hr2.drew) (Nat.le_trans hB hz2) (by omega))
                have hdis : ∀ q, F' q → ¬ (F q ∨ (wr.drew.heap.size ≤ q ∧ q < w2.heap.size)) := fun q h h2 => by
                  rcases h2 with h2 | h2
                  · exact t3 q h2 h
                  · have := (hF' q h).2; have h3 : wr.heap.size ≤ q := h2.1; omega
                have HDIS := Lib.hid hdis
                clear hdis t3
                go_wp2_with fail
                refine region_mv 99 F' (by kernel_rfl) ?_
                refine phase_mv (by kernel_rfl) 1 (Mv.refl _ _).drew [0, 1, 3, 7, 9, 13, 15, 2, 8, 14, 4, 10, 16, 5, 11, 17, 6, 12, 18] rfl (by kernel_rfl) ?_
                simp only [picks, nth]
                repeat (go_big_quiet_step (fail))
                refine wpQuiet_nil ?_
                refine phase_opL 19 0 rfl (by kernel_rfl) (by decide) ?_
                simp only [nth]
                go_wp2_with fail
                refine (PR.out).mono ?_
                rintro e w3 ⟨rfl, m3, b3, u3⟩
                have M3 : Mv F' w2 w3 := (Mv.of_new (below_drew w2) F').trans m3 fun _ _ h => h
                go_wp2_with fail
                refine behind_mv M3 ?_
                refine phase_endL (by kernel_rfl) ?_
                have b3' : Below (w.heap.size + 1) w2 w3 := ((below_drew w2).mono hw2).trans b3
                have u4 := u1.mv M3 fun q _ hf hf2 => HDIS.out q hf2 hf
                have KK3 := KK2.mv M3 hGb'
                have bb3 := bb2.trans (b3'.mono (Nat.le_succ _))
                have hlt4 := u1.lt
                have TW' : Two w3 (w.heap.size + 1) g g' (Dc.pokeS DD vi vsb vd) (Dc.pokeS DD vi vsb vd) := ⟨_, _, u4, u3, fun q h h2 => by
                  rcases h2 with h2 | h2
                  · exact HDIS.out q h2 h
                  · have := (hlt4 q h).2; have h3 : w2.heap.size ≤ q := h2.1; omega⟩
                clear k1 v0 v1 v2 PK PR hlt4
                go_wp2_with fail
                go_roundw
                case rel => exact ⟨k + 1, by omega, by go_num, bb3, KK3, by rw [HPK.out]; exact TW'⟩
                case measure => simp [intOf] <;> omega
              · obtain rfl : k = n1 := by omega
                go_wp2_with fail
                go_ret3
                rw [List.take_of_length_le (by rw [HL.out]; omega)] at TW
                exact .inr ⟨g, g', _, rfl, bb, by omega, TW.more (Nat.le_succ _), hf0.out.pokes hvs, by rw [Dc.pokes_l]; exact HDS.out⟩
          · have hne2 : (ne == 0) = false := by simpa using hne
            have hne3 : (ne != 0) = true := by simpa using hne
            have HNE := Lib.hid hne
            clear hfine hDl hne
            go_wp2_with fail
            refine (ND.out).mono ?_
            rintro e w1 (⟨hx, _⟩ | ⟨_, b1, rfl⟩)
            case inl => exact absurd hx HNE.out
            have d1 := below_step b0 b1 (Nat.le_refl _)
            have K1 := (K.later b1).cin
            clear K4
            go_wp2_with fail
            refine (NR.out _ d1).mono ?_
            rintro e w2 (⟨hx, _⟩ | ⟨_, b2, a, rfl⟩)
            case inl => exact absurd hx HNE.out
            go_wp2_with fail
            go_ret3
            exact made_no (below_step d1 b2 (Nat.le_refl _))
end Go.Proofs.YtgkhpebhhkdgoaaGreat
