/-
  Walk: TxqCounts.
  Conditions: none.
-/
import Derived.Test.YtmhcobhpdlpoeaaKnown
import Derived.Test.YtmhcobhpdlpoeaaOps
namespace Go.Proofs.Ytmhcobhpdlpoeaa
set_option linter.unusedVariables false
set_option linter.unusedSimpArgs false
open Go.ChangeShapes Go.WideShapes Go.ChangeAt Go.RowKit
theorem check_codes (f : Can.Fr) (h : Can.check f ≠ 0) : (Can.check f == 0) = false ∧ (Can.check f == 6) = false := by
  rcases Can.checkN_range f.id f.rem f.data.length with e | e | e | e
  · exact absurd e h
  all_goals
    change Can.check f = _ at e
    rw [e]
    decide
set_option maxRecDepth 100000 in
set_option maxHeartbeats 16000000 in
theorem TxqCounts_walk {A : Option Addr} {n c : Nat} {ops : List Tq} (W : World) (z : Int) (wz : (Lit.int .u8 z).wf = true) (h : ROps W W.heap.size A n c ops) :
    Calls Try.prog 4 #[.int .u8 z, .slice A n c] W fun e w' => e = .returned (.bool true) ∧ Below W.heap.size W w' := by
  obtain ⟨hz1, hz2⟩ := wf_u8 wz
  have hn := h.lt
  have hroom : ∃ N : Nat, 1 + z % 64 = (N : Int) ∧ 1 ≤ N ∧ N ≤ 64 := ⟨(1 + z % 64).toNat, by omega, by omega, by omega⟩
  obtain ⟨N, hN, hN1, hN2⟩ := hroom
  have q1 := QR.new W (N : Int)
  have d1 := alloc_one W (.cells #[.int .i64 (N : Int), .slice none 0 0, .int .i64 0, .bool false] 56)
  go_enter Try.func4, Try.ntmps4
  go_wp2_with fail
  refine (New_ok (N : Int) _ (by omega) (by omega)).mono ?_
  rintro e w1 ⟨rfl, rfl⟩
  generalize hw1 : W.alloc (.cells #[.int .i64 (N : Int), .slice none 0 0, .int .i64 0, .bool false] 56) = w1 at *
  have HW1 := Lib.hid hw1; clear hw1
  have HNN := Lib.hid hN; clear hN
  go_wp2_with fail
  refine (light_any _ (h.below d1)).mono ?_
  rintro e w0 ⟨b, rfl, rfl, hl⟩
  cases b with
  | false =>
    clear hl
    go_wp2_with fail
    refine (known_any _).mono ?_
    rintro e w2 ⟨rfl, b2⟩
    go_wp2_with fail
    go_ret
    exact ⟨rfl, below_step d1 b2 (Nat.le_refl _)⟩
  | true =>
    clear hl
    go_wp2_with fail
    go_loopw [8, 9, 10] (fun u v i wr => ∃ (k : Nat) (fs : List Can.Fr) (lost : Int) (sp : Bool) (p gn : Int), k ≤ n ∧ k ≤ 80 ∧ i = .int .i64 k ∧ u = .int .i64 p ∧ v = .int .i64 gn ∧ p = gn + (fs.length : Int) + lost ∧ 0 ≤ lost ∧ 0 ≤ gn ∧ p ≤ k ∧ (fs.length : Int) ≤ N ∧
      QR wr (fun b => W.heap.size ≤ b) W.heap.size (N : Int) fs lost sp ∧ Below W.heap.size W wr) (fun _ _ i _ => n - (intOf i).toNat)
    case atStart => exact ⟨0, [], 0, false, 0, 0, by omega, by omega, rfl, rfl, rfl, by simp, by omega, by omega, by omega, by simp, q1, d1⟩
    case round =>
      clear q1 d1
      obtain ⟨k, fs, lost, sp, p, gn, hk, hk2, rfl, rfl, rfl, hp, hlo, hgn, hpk, hfn, q, hbel⟩ := hrel
      have HP := Lib.hid hp
      have hle1 : gn ≤ 80 := by omega
      have hle2 : lost ≤ 80 := by omega
      have hle3 : (fs.length : Int) ≤ 80 := by omega
      have hle4 : 0 ≤ p := by omega
      clear hp
      by_cases hlt : k < n
      · by_cases h80 : k < 80
        · obtain ⟨b, o, A1, n1, c1, rfl, hbB, x0, x1, x2, x3, hr⟩ := (h.below hbel).at_ hlt
          generalize ops.getD k Tq.zero = op at *
          obtain ⟨z, fi, fr, fd⟩ := op
          dsimp only at *
          have hz := hbel.size
          have b1 := alloc_one wr (.cells #[.int .i64 z, .int .i64 fi, .bool fr, .slice A1 n1 c1] 41)
          have q1 := q.below b1
          have hr1 := hr.below (b1.mono hz)
          have D1 := below_step hbel b1 (Nat.le_refl _)
          have hsz : W.heap.size ≤ (wr.alloc (.cells #[.int .i64 z, .int .i64 fi, .bool fr, .slice A1 n1 c1] 41)).heap.size := D1.size
          by_cases z0 : z = 0
          · subst z0
            by_cases hck : Can.check ⟨fi, fr, fd⟩ = 0
            · by_cases hfull : (fs.length : Int) = N
              · have C := Lib.hid (Put_full _ q1 (by omega) hr1 hck hfull hlo (by omega))
                clear hfull hck
                go_wp2_with fail
                refine (C.out).mono ?_
                rintro e w2 ⟨rfl, Q, m2⟩
                have D := below_mv D1 m2 hsz fun b h => by omega
                go_wp2_with fail
                have hX : p + 1 = gn + ((fs).length : Int) + (lost + 1) := by have := HP.out; first | omega | (simp <;> omega)
                have hL : ((fs).length : Int) ≤ N := by first | omega | (simp <;> omega)
                generalize hpp : (p + 1 : Int) = pp at hX ⊢
                generalize hgg : (gn : Int) = gg at hX ⊢
                generalize hll : (lost + 1 : Int) = lo at hX Q ⊢
                generalize hff : (fs) = fs2 at hX hL Q ⊢
                have HX := Lib.hid hX
                have g1 : 0 ≤ gg ∧ gg ≤ 80 := by have := HP.out; omega
                have g2 : 0 ≤ lo ∧ lo ≤ 81 := by omega
                have g3 : 0 ≤ pp ∧ pp ≤ (k : Int) + 1 := by omega
                have T1 : (pp != gg + (fs2.length : Int) + lo) = false := by rw [bne_eq_false_iff_eq]; exact hX
                have T2 : decide ((N : Int) < (fs2.length : Int)) = false := by simp; omega
                have T3 : decide ((fs2.length : Int) < 0) = false := by simp
                obtain ⟨g11, g12⟩ := g1
                obtain ⟨g21, g22⟩ := g2
                obtain ⟨g31, g32⟩ := g3
                clear hX hpp hgg hll hff
                refine (Len_any _ Q).mono ?_
                rintro e _ ⟨rfl, rfl⟩
                go_wp2_with fail
                refine (Lost_any _ Q).mono ?_
                rintro e _ ⟨rfl, rfl⟩
                go_wp2_with fail
                refine (Len_any _ Q).mono ?_
                rintro e _ ⟨rfl, rfl⟩
                go_wp2_with fail
                refine (Len_any _ Q).mono ?_
                rintro e _ ⟨rfl, rfl⟩
                go_wp2_with fail
                go_roundw
                case rel => exact ⟨k + 1, fs2, lo, true, pp, gg, by omega, by omega, by go_num, rfl, rfl, HX.out, by omega, by omega, by omega, by omega, Q, D⟩
                case measure => simp [intOf] <;> omega
              · have C := Lib.hid (Put_in _ q1 (by omega) (by omega) hr1 hsz hck (by omega))
                have hne : (fs.length : Int) < N := by omega
                clear hfull hck
                go_wp2_with fail
                refine (C.out).mono ?_
                rintro e w2 ⟨rfl, q2, m2⟩
                have D := below_mv D1 m2 hsz fun b h => by omega
                have Q := q2.mono (G := fun b => W.heap.size ≤ b) fun b hb h => by omega
                have HIL := Lib.hid (Can.insS_length ⟨fi, fr, fd⟩ fs)
                clear q2
                go_wp2_with fail
                have hX : p + 1 = gn + ((Can.insS ⟨fi, fr, fd⟩ fs).length : Int) + (lost) := by have := HP.out; have := HIL.out; first | omega | (simp <;> omega)
                have hL : ((Can.insS ⟨fi, fr, fd⟩ fs).length : Int) ≤ N := by have := HIL.out; first | omega | (simp <;> omega)
                generalize hpp : (p + 1 : Int) = pp at hX ⊢
                generalize hgg : (gn : Int) = gg at hX ⊢
                generalize hll : (lost : Int) = lo at hX Q ⊢
                generalize hff : (Can.insS ⟨fi, fr, fd⟩ fs) = fs2 at hX hL Q ⊢
                have HX := Lib.hid hX
                have g1 : 0 ≤ gg ∧ gg ≤ 80 := by have := HP.out; omega
                have g2 : 0 ≤ lo ∧ lo ≤ 81 := by omega
                have g3 : 0 ≤ pp ∧ pp ≤ (k : Int) + 1 := by omega
                have T1 : (pp != gg + (fs2.length : Int) + lo) = false := by rw [bne_eq_false_iff_eq]; exact hX
                have T2 : decide ((N : Int) < (fs2.length : Int)) = false := by simp; omega
                have T3 : decide ((fs2.length : Int) < 0) = false := by simp
                obtain ⟨g11, g12⟩ := g1
                obtain ⟨g21, g22⟩ := g2
                obtain ⟨g31, g32⟩ := g3
                clear hX hpp hgg hll hff
                refine (Len_any _ Q).mono ?_
                rintro e _ ⟨rfl, rfl⟩
                go_wp2_with fail
                refine (Lost_any _ Q).mono ?_
                rintro e _ ⟨rfl, rfl⟩
                go_wp2_with fail
                refine (Len_any _ Q).mono ?_
                rintro e _ ⟨rfl, rfl⟩
                go_wp2_with fail
                refine (Len_any _ Q).mono ?_
                rintro e _ ⟨rfl, rfl⟩
                go_wp2_with fail
                go_roundw
                case rel => exact ⟨k + 1, fs2, lo, sp, pp, gg, by omega, by omega, by go_num, rfl, rfl, HX.out, by omega, by omega, by omega, by omega, Q, D⟩
                case measure => simp [intOf] <;> omega
            · obtain ⟨t0, t6⟩ := check_codes _ hck
              have C := Lib.hid (Put_bad _ q1 (by omega) hr1 hck)
              clear hck
              generalize Can.check ⟨fi, fr, fd⟩ = v at *
              go_wp2_with fail
              refine (C.out).mono ?_
              rintro e w2 ⟨rfl, b2⟩
              have D := below_step D1 b2 (Nat.le_refl _)
              have Q := q1.below b2
              go_wp2_with fail
              have hX : p = gn + ((fs).length : Int) + (lost) := by have := HP.out; first | omega | (simp <;> omega)
              have hL : ((fs).length : Int) ≤ N := by first | omega | (simp <;> omega)
              generalize hpp : (p : Int) = pp at hX ⊢
              generalize hgg : (gn : Int) = gg at hX ⊢
              generalize hll : (lost : Int) = lo at hX Q ⊢
              generalize hff : (fs) = fs2 at hX hL Q ⊢
              have HX := Lib.hid hX
              have g1 : 0 ≤ gg ∧ gg ≤ 80 := by have := HP.out; omega
              have g2 : 0 ≤ lo ∧ lo ≤ 81 := by omega
              have g3 : 0 ≤ pp ∧ pp ≤ (k : Int) + 1 := by omega
              have T1 : (pp != gg + (fs2.length : Int) + lo) = false := by rw [bne_eq_false_iff_eq]; exact hX
              have T2 : decide ((N : Int) < (fs2.length : Int)) = false := by simp; omega
              have T3 : decide ((fs2.length : Int) < 0) = false := by simp
              obtain ⟨g11, g12⟩ := g1
              obtain ⟨g21, g22⟩ := g2
              obtain ⟨g31, g32⟩ := g3
              clear hX hpp hgg hll hff
              refine (Len_any _ Q).mono ?_
              rintro e _ ⟨rfl, rfl⟩
              go_wp2_with fail
              refine (Lost_any _ Q).mono ?_
              rintro e _ ⟨rfl, rfl⟩
              go_wp2_with fail
              refine (Len_any _ Q).mono ?_
              rintro e _ ⟨rfl, rfl⟩
              go_wp2_with fail
              refine (Len_any _ Q).mono ?_
              rintro e _ ⟨rfl, rfl⟩
              go_wp2_with fail
              go_roundw
              case rel => exact ⟨k + 1, fs2, lo, sp, pp, gg, by omega, by omega, by go_num, rfl, rfl, HX.out, by omega, by omega, by omega, by omega, Q, D⟩
              case measure => simp [intOf] <;> omega
          by_cases z1 : z = 1
          · subst z1
            cases fs with
            | nil =>
              go_wp2_with fail
              refine (Take_empty _ q1).mono ?_
              rintro e w2 ⟨rfl, b2⟩
              have b2' := below_step b2 (alloc_one w2 (.cells #[.int .i64 0, .bool false, .slice none 0 0] 29)) (Nat.le_refl _)
              have D := below_step D1 b2' (Nat.le_refl _)
              have Q := q1.below b2'
              go_wp2_with fail
              have hX : p = gn + ((([] : List Can.Fr)).length : Int) + (lost) := by have := HP.out; first | omega | (simp <;> omega)
              have hL : ((([] : List Can.Fr)).length : Int) ≤ N := by first | omega | (simp <;> omega)
              generalize hpp : (p : Int) = pp at hX ⊢
              generalize hgg : (gn : Int) = gg at hX ⊢
              generalize hll : (lost : Int) = lo at hX Q ⊢
              generalize hff : (([] : List Can.Fr)) = fs2 at hX hL Q ⊢
              have HX := Lib.hid hX
              have g1 : 0 ≤ gg ∧ gg ≤ 80 := by have := HP.out; omega
              have g2 : 0 ≤ lo ∧ lo ≤ 81 := by omega
              have g3 : 0 ≤ pp ∧ pp ≤ (k : Int) + 1 := by omega
              have T1 : (pp != gg + (fs2.length : Int) + lo) = false := by rw [bne_eq_false_iff_eq]; exact hX
              have T2 : decide ((N : Int) < (fs2.length : Int)) = false := by simp; omega
              have T3 : decide ((fs2.length : Int) < 0) = false := by simp
              obtain ⟨g11, g12⟩ := g1
              obtain ⟨g21, g22⟩ := g2
              obtain ⟨g31, g32⟩ := g3
              clear hX hpp hgg hll hff
              refine (Len_any _ Q).mono ?_
              rintro e _ ⟨rfl, rfl⟩
              go_wp2_with fail
              refine (Lost_any _ Q).mono ?_
              rintro e _ ⟨rfl, rfl⟩
              go_wp2_with fail
              refine (Len_any _ Q).mono ?_
              rintro e _ ⟨rfl, rfl⟩
              go_wp2_with fail
              refine (Len_any _ Q).mono ?_
              rintro e _ ⟨rfl, rfl⟩
              go_wp2_with fail
              go_roundw
              case rel => exact ⟨k + 1, fs2, lo, sp, pp, gg, by omega, by omega, by go_num, rfl, rfl, HX.out, by omega, by omega, by omega, by omega, Q, D⟩
              case measure => simp [intOf] <;> omega
            | cons f fs =>
              have HLL := Lib.hid (show ((f :: fs).length : Int) = (fs.length : Int) + 1 by simp)
              go_wp2_with fail
              refine (Take_any _ f q1).mono ?_
              rintro e w2 ⟨A2, n2, c2, rfl, r2, q2, m2⟩
              have D2 := below_mv D1 m2 hsz fun b h => by omega
              have D := below_step D2 (alloc_one w2 (.cells #[.int .i64 f.id, .bool f.rem, .slice A2 n2 c2] 29)) (Nat.le_refl _)
              have Q := q2.below (alloc_one w2 (.cells #[.int .i64 f.id, .bool f.rem, .slice A2 n2 c2] 29))
              go_wp2_with fail
              have hX : p = gn + 1 + ((fs).length : Int) + (lost) := by have := HP.out; have := HLL.out; first | omega | (simp <;> omega)
              have hL : ((fs).length : Int) ≤ N := by have := HLL.out; first | omega | (simp <;> omega)
              generalize hpp : (p : Int) = pp at hX ⊢
              generalize hgg : (gn + 1 : Int) = gg at hX ⊢
              generalize hll : (lost : Int) = lo at hX Q ⊢
              generalize hff : (fs) = fs2 at hX hL Q ⊢
              have HX := Lib.hid hX
              have g1 : 0 ≤ gg ∧ gg ≤ 80 := by have := HP.out; omega
              have g2 : 0 ≤ lo ∧ lo ≤ 81 := by omega
              have g3 : 0 ≤ pp ∧ pp ≤ (k : Int) + 1 := by omega
              have T1 : (pp != gg + (fs2.length : Int) + lo) = false := by rw [bne_eq_false_iff_eq]; exact hX
              have T2 : decide ((N : Int) < (fs2.length : Int)) = false := by simp; omega
              have T3 : decide ((fs2.length : Int) < 0) = false := by simp
              obtain ⟨g11, g12⟩ := g1
              obtain ⟨g21, g22⟩ := g2
              obtain ⟨g31, g32⟩ := g3
              clear hX hpp hgg hll hff
              refine (Len_any _ Q).mono ?_
              rintro e _ ⟨rfl, rfl⟩
              go_wp2_with fail
              refine (Lost_any _ Q).mono ?_
              rintro e _ ⟨rfl, rfl⟩
              go_wp2_with fail
              refine (Len_any _ Q).mono ?_
              rintro e _ ⟨rfl, rfl⟩
              go_wp2_with fail
              refine (Len_any _ Q).mono ?_
              rintro e _ ⟨rfl, rfl⟩
              go_wp2_with fail
              go_roundw
              case rel => exact ⟨k + 1, fs2, lo, sp, pp, gg, by omega, by omega, by go_num, rfl, rfl, HX.out, by omega, by omega, by omega, by omega, Q, D⟩
              case measure => simp [intOf] <;> omega
          by_cases z3 : z = 3
          · subst z3
            go_wp2_with fail
            refine (Len_any _ q1).mono ?_
            rintro e w2 ⟨rfl, rfl⟩
            go_wp2_with fail
            refine (Clear_any _ q1).mono ?_
            rintro e w2 ⟨rfl, Q, m2⟩
            have D := below_mv D1 m2 hsz fun b h => by omega
            go_wp2_with fail
            have hX : p = gn + (fs.length : Int) + ((([] : List Can.Fr)).length : Int) + (lost) := by have := HP.out; first | omega | (simp <;> omega)
            have hL : ((([] : List Can.Fr)).length : Int) ≤ N := by first | omega | (simp <;> omega)
            generalize hpp : (p : Int) = pp at hX ⊢
            generalize hgg : (gn + (fs.length : Int) : Int) = gg at hX ⊢
            generalize hll : (lost : Int) = lo at hX Q ⊢
            generalize hff : (([] : List Can.Fr)) = fs2 at hX hL Q ⊢
            have HX := Lib.hid hX
            have g1 : 0 ≤ gg ∧ gg ≤ 80 := by have := HP.out; omega
            have g2 : 0 ≤ lo ∧ lo ≤ 81 := by omega
            have g3 : 0 ≤ pp ∧ pp ≤ (k : Int) + 1 := by omega
            have T1 : (pp != gg + (fs2.length : Int) + lo) = false := by rw [bne_eq_false_iff_eq]; exact hX
            have T2 : decide ((N : Int) < (fs2.length : Int)) = false := by simp; omega
            have T3 : decide ((fs2.length : Int) < 0) = false := by simp
            obtain ⟨g11, g12⟩ := g1
            obtain ⟨g21, g22⟩ := g2
            obtain ⟨g31, g32⟩ := g3
            clear hX hpp hgg hll hff
            refine (Len_any _ Q).mono ?_
            rintro e _ ⟨rfl, rfl⟩
            go_wp2_with fail
            refine (Lost_any _ Q).mono ?_
            rintro e _ ⟨rfl, rfl⟩
            go_wp2_with fail
            refine (Len_any _ Q).mono ?_
            rintro e _ ⟨rfl, rfl⟩
            go_wp2_with fail
            refine (Len_any _ Q).mono ?_
            rintro e _ ⟨rfl, rfl⟩
            go_wp2_with fail
            go_roundw
            case rel => exact ⟨k + 1, fs2, lo, sp, pp, gg, by omega, by omega, by go_num, rfl, rfl, HX.out, by omega, by omega, by omega, by omega, Q, D⟩
            case measure => simp [intOf] <;> omega
          · have t0 : (z == 0) = false := by simpa using z0
            have t1 : (z == 1) = false := by simpa using z1
            have t3 : (z == 3) = false := by simpa using z3
            have D := D1
            have Q := q1
            go_wp2_with fail
            have hX : p = gn + ((fs).length : Int) + (lost) := by have := HP.out; first | omega | (simp <;> omega)
            have hL : ((fs).length : Int) ≤ N := by first | omega | (simp <;> omega)
            generalize hpp : (p : Int) = pp at hX ⊢
            generalize hgg : (gn : Int) = gg at hX ⊢
            generalize hll : (lost : Int) = lo at hX Q ⊢
            generalize hff : (fs) = fs2 at hX hL Q ⊢
            have HX := Lib.hid hX
            have g1 : 0 ≤ gg ∧ gg ≤ 80 := by have := HP.out; omega
            have g2 : 0 ≤ lo ∧ lo ≤ 81 := by omega
            have g3 : 0 ≤ pp ∧ pp ≤ (k : Int) + 1 := by omega
            have T1 : (pp != gg + (fs2.length : Int) + lo) = false := by rw [bne_eq_false_iff_eq]; exact hX
            have T2 : decide ((N : Int) < (fs2.length : Int)) = false := by simp; omega
            have T3 : decide ((fs2.length : Int) < 0) = false := by simp
            obtain ⟨g11, g12⟩ := g1
            obtain ⟨g21, g22⟩ := g2
            obtain ⟨g31, g32⟩ := g3
            clear hX hpp hgg hll hff
            refine (Len_any _ Q).mono ?_
            rintro e _ ⟨rfl, rfl⟩
            go_wp2_with fail
            refine (Lost_any _ Q).mono ?_
            rintro e _ ⟨rfl, rfl⟩
            go_wp2_with fail
            refine (Len_any _ Q).mono ?_
            rintro e _ ⟨rfl, rfl⟩
            go_wp2_with fail
            refine (Len_any _ Q).mono ?_
            rintro e _ ⟨rfl, rfl⟩
            go_wp2_with fail
            go_roundw
            case rel => exact ⟨k + 1, fs2, lo, sp, pp, gg, by omega, by omega, by go_num, rfl, rfl, HX.out, by omega, by omega, by omega, by omega, Q, D⟩
            case measure => simp [intOf] <;> omega
        · obtain rfl : k = 80 := by omega
          go_wp2_with fail
          refine (known_any _).mono ?_
          rintro e w2 ⟨rfl, b2⟩
          go_wp2_with fail
          go_ret
          exact ⟨rfl, below_step hbel b2 (Nat.le_refl _)⟩
      · obtain rfl : k = n := by omega
        go_wp2_with fail
        refine (known_any _).mono ?_
        rintro e w2 ⟨rfl, b2⟩
        go_wp2_with fail
        go_ret
        exact ⟨rfl, below_step hbel b2 (Nat.le_refl _)⟩
end Go.Proofs.Ytmhcobhpdlpoeaa
