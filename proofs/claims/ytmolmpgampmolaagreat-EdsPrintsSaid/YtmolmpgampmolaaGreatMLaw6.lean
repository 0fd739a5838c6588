/-
  Walk: EdsPrints.
  Conditions: none.
-/
import Derived.Test.YtmolmpgampmolaaGreatJ22
import Derived.Test.YtmolmpgampmolaaGreatJ25
import Derived.Test.YtmolmpgampmolaaGreatJ35
import Derived.Test.YtmolmpgampmolaaGreatJ36
namespace Go.Proofs.YtmolmpgampmolaaGreat
set_option linter.unusedVariables false
set_option linter.unusedSimpArgs false
open Go.RowKit Go.Sort
set_option maxRecDepth 100000 in
set_option maxHeartbeats 8000000 in
theorem EdsPrints_walk (W : World) {es : List Ent.En} {A : Option Addr} {n c : Nat} (wr : REn W W.heap.size W.heap.size A n c es) (wn : ∀ e ∈ es, e.name.length ≤ 9223372036854775807) : Calls Tryz.prog 4 #[.slice A n c] W fun e w' => e = .returned (.bool true) ∧ Below W.heap.size W w' := by
  have LT := Lib.hid (Light15_any W wr wn)
  have KN := Lib.hid (fun w => known17_any w)
  have WR := Lib.hid wr
  clear wr wn
  go_enter Tryz.func4, Tryz.ntmps4
  go_wp2_with fail
  refine (LT.out).mono ?_
  rintro e w1 ⟨b, rfl, rfl, hb⟩
  clear LT
  cases b
  case false =>
    clear hb
    go_wp2_with fail
    refine (KN.out _).mono ?_
    rintro e w8 ⟨rfl, b8⟩
    go_wp2_with fail
    go_ret
    exact ⟨rfl, b8⟩
  obtain ⟨hn200, hlen⟩ := hb rfl
  have LE := Lib.hid (RLent15_any W WR.out (Nat.le_refl _) (Nat.le_refl _) (by omega) (fun e he => by have := hlen e he; omega))
  have hlens : ∀ e ∈ es, e.name.length ≤ 1000000 ∧ e.dflt.length ≤ 1000000 := fun e he => by have := hlen e he; omega
  have HLN := Lib.hid hlens
  have hln := WR.out.len
  subst hln
  clear hb hlen hlens
  go_wp2_with fail
  refine (LE.out).mono ?_
  rintro e w2 ⟨A2, c2, rfl, o2, b2⟩
  have PR := Print_any w2 o2.ren (Nat.le_refl _) (Nat.le_refl _) HLN.out
  have PS := fun (w : World) (b : Below W.heap.size W w) => RPrint_any w (WR.out.below b (Nat.le_refl _)) b.size (Nat.le_refl _) HLN.out
  unfold PrtPost at PR PS
  generalize Ed.printS es = p at *
  obtain ⟨t, z, q⟩ := p
  dsimp only at PR PS
  replace PR := Lib.hid PR
  replace PS := Lib.hid PS
  clear LE
  go_wp2_with fail
  refine (PR.out).mono ?_
  rintro e w3 ⟨rfl, b3⟩
  have d3 := below_step b2 b3 (Nat.le_refl _)
  have o3 := o2.below b3
  have PS3 := Lib.hid (PS.out w3 d3)
  clear PR PS o2 b2 b3
  go_wp2_with fail
  refine (PS3.out).mono ?_
  rintro e w4 ⟨rfl, b4⟩
  have d4 := below_step d3 b4 (Nat.le_refl _)
  have o4 := o3.below b4
  have AL := Lib.hid (RAll15_eq w4 o4.ren (WR.out.below d4 (Nat.le_refl _)) (Nat.le_refl _) (Nat.le_refl _) d4.size d4.size)
  clear PS3 o3 d3 b4
  go_wp2_with fail
  refine (AL.out).mono ?_
  rintro e w5 ⟨rfl, b5⟩
  have d5 := below_step d4 b5 (Nat.le_refl _)
  have o5 := o4.below b5
  clear AL o4 d4 b5
  go_wp2_with fail
  go_loopw [10] (fun i wr => ∃ k : Nat, k ≤ es.length ∧ i = .int .i64 k ∧ OEn wr W.heap.size A2 es.length c2 es ∧ Below W.heap.size W wr) (fun i _ => es.length - (intOf i).toNat)
  case atStart => exact ⟨0, Nat.zero_le _, rfl, o5, d5⟩
  case round =>
    obtain ⟨k, hk, rfl, OO, bb⟩ := hrel
    by_cases hkn : k < es.length
    · obtain ⟨b, o, A3, n3, c3, rfl, hbB, hr, hc⟩ := (OO.ren).at_ hkn
      obtain ⟨b', o', A4, n4, c4, rfl, hbB', hr', hc'⟩ := WR.out.at_ hkn
      have hmem : es.getD k Dc.en0 ∈ es := by
        have : es.getD k Dc.en0 = es[k] := by simp [List.getD, List.getElem?_eq_getElem hkn]
        rw [this]; exact List.getElem_mem _
      have hnm := (HLN.out _ hmem).1
      generalize es.getD k Dc.en0 = e at *
      have L1 := Line_any (A := A3) (n := n3) (c := c3) e wr hr (Nat.le_refl _) hnm
      have L2 := fun (w : World) (q : Below W.heap.size W w) => RLine_any (A := A4) (n := n4) (c := c4) e w (hr'.below q) q.size hnm
      unfold enV ShowPost at L1 L2
      generalize Ed.lineS e = ls at *
      obtain ⟨L, z2⟩ := ls
      dsimp only at L1 L2
      replace L1 := Lib.hid L1
      replace L2 := Lib.hid L2
      have i0 : (0 : Int) ≤ (k : Int) := by omega
      have i1 : (k : Int) < (es.length : Int) := by omega
      have HC' := Lib.hid hc'
      have a0 := hc 0 _ rfl
      have a1 := hc 1 _ rfl
      have a2 := hc 2 _ rfl
      have a3 := hc 3 _ rfl
      have a4 := hc 4 _ rfl
      have a5 := hc 5 _ rfl
      have a6 := hc 6 _ rfl
      have a7 := hc 7 _ rfl
      have a8 := hc 8 _ rfl
      have a9 := hc 9 _ rfl
      have a10 := hc 10 _ rfl
      simp only [Nat.add_zero] at a0
      clear hc hr hr' hmem hnm hc'
      go_wp2_with fail
      refine (L1.out).mono ?_
      rintro x w6 ⟨rfl, b6⟩
      have d6 := below_step bb b6 (Nat.le_refl _)
      have O6 := OO.below b6
      have L26 := Lib.hid (L2.out w6 d6)
      have x0 := (d6.cell (p := ⟨b', o' + k * 11 + 0, none⟩) hbB').trans (HC'.out 0 _ rfl)
      have x1 := (d6.cell (p := ⟨b', o' + k * 11 + 1, none⟩) hbB').trans (HC'.out 1 _ rfl)
      have x2 := (d6.cell (p := ⟨b', o' + k * 11 + 2, none⟩) hbB').trans (HC'.out 2 _ rfl)
      have x3 := (d6.cell (p := ⟨b', o' + k * 11 + 3, none⟩) hbB').trans (HC'.out 3 _ rfl)
      have x4 := (d6.cell (p := ⟨b', o' + k * 11 + 4, none⟩) hbB').trans (HC'.out 4 _ rfl)
      have x5 := (d6.cell (p := ⟨b', o' + k * 11 + 5, none⟩) hbB').trans (HC'.out 5 _ rfl)
      have x6 := (d6.cell (p := ⟨b', o' + k * 11 + 6, none⟩) hbB').trans (HC'.out 6 _ rfl)
      have x7 := (d6.cell (p := ⟨b', o' + k * 11 + 7, none⟩) hbB').trans (HC'.out 7 _ rfl)
      have x8 := (d6.cell (p := ⟨b', o' + k * 11 + 8, none⟩) hbB').trans (HC'.out 8 _ rfl)
      have x9 := (d6.cell (p := ⟨b', o' + k * 11 + 9, none⟩) hbB').trans (HC'.out 9 _ rfl)
      have x10 := (d6.cell (p := ⟨b', o' + k * 11 + 10, none⟩) hbB').trans (HC'.out 10 _ rfl)
      simp only [Nat.add_zero] at x0
      clear L1 L2 a0 a1 a2 a3 a4 a5 a6 a7 a8 a9 a10 HC'
      go_wp2_with fail
      refine (L26.out).mono ?_
      rintro x w7 ⟨rfl, b7⟩
      have d7 := below_step d6 b7 (Nat.le_refl _)
      have O7 := O6.below b7
      clear L26 x0 x1 x2 x3 x4 x5 x6 x7 x8 x9 x10
      go_wp2_with fail
      go_roundw
      case rel => exact ⟨k + 1, by omega, by go_num, O7, d7⟩
      case measure => simp [intOf] <;> omega
    · obtain rfl : k = es.length := by omega
      clear OO o5
      go_wp2_with fail
      refine (KN.out _).mono ?_
      rintro e w8 ⟨rfl, b8⟩
      go_wp2_with fail
      go_ret
      exact ⟨rfl, below_step bb b8 (Nat.le_refl _)⟩
end Go.Proofs.YtmolmpgampmolaaGreat
