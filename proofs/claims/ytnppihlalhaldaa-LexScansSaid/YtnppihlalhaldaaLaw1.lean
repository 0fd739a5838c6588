/-
  Walk: LexScans.
  Conditions: none.
-/
import Derived.Test.YtnppihlalhaldaaKnown
import Derived.Test.YtnppihlalhaldaaLexRScan
namespace Go.Proofs.Ytnppihlalhaldaa
set_option linter.unusedVariables false
set_option linter.unusedSimpArgs false
open Go.RowKit
theorem same_self (b : Bool) : ∀ l : List Lx.Tk, Lx.sameL b l l = true
  | [] => rfl
  | t :: l => by
    rw [same_step, same_self b l]
    simp [Lx.like]
theorem ov_cell {w : World} {base e size n c g : Nat} {xs : List Value} (h : OV w base e size (some ⟨g, 0, none⟩) n c xs) {j : Nat} (hj : j < n * size) (hn : 0 < n) : ∃ v, w.cell? ⟨g, j, none⟩ = some v := by
  have hr := h.rv
  obtain ⟨b, o, e1, _, hc⟩ := hr.at_ hn
  injection e1 with e1
  injection e1 with e1 e2
  subst e1 e2
  have := hc j _ (List.getElem?_eq_getElem (by rw [hr.len]; exact hj))
  rw [Nat.zero_add] at this
  exact ⟨_, this⟩
set_option maxRecDepth 100000 in
set_option maxHeartbeats 4000000 in
theorem LexScans_walk (W : World) (s0 : ByteArray) (ws : s0.size ≤ maxLen) : Calls Try.prog 3 #[.string s0] W fun e w' => e = .returned (.bool true) ∧ Below W.heap.size W w' := by
  obtain ⟨s, rfl⟩ := T_of s0
  have hT := T_size s
  by_cases hbig : 20000 < s.length
  · go_enter Try.func3, Try.ntmps3
    go_wp2_with fail
    refine (known16_any _).mono ?_
    rintro e w8 ⟨rfl, b8⟩
    go_wp2_with fail
    go_ret
    exact ⟨rfl, b8⟩
  have S := fun w => Scan_any s w (by omega)
  have R := fun w => RScan_any s w (by omega)
  generalize Lx.scanS s = p at *
  obtain ⟨ts, x, q⟩ := p
  have hself := same_self true ts
  have HSELF := Lib.hid hself; clear hself
  replace S := Lib.hid S; replace R := Lib.hid R
  go_enter Try.func3, Try.ntmps3
  go_wp2_with fail
  refine (S.out _).mono ?_
  rintro e w1 ⟨A1, c1, rfl, o1, b1⟩
  dsimp only at o1
  go_wp2_with fail
  refine (R.out _).mono ?_
  rintro e w2 ⟨A2, c2, rfl, o2, b2⟩
  dsimp only at o2
  have d2 := below_step b1 b2 (Nat.le_refl _)
  have o1' := o1.below b2
  have M := RSame_any true w2 o1'.rs o2.rs
  rw [HSELF.out] at M
  replace M := Lib.hid M
  have hlt := o1'.rs.lt
  go_wp2_with fail
  refine (M.out).mono ?_
  rintro e w3 h3
  obtain ⟨rfl, d, rfl⟩ := h3
  have b3 : Below w2.heap.size w2 (w2.drewN d) := below_drewN (Below.refl _ _) d
  have d3 := below_step d2 b3 (Nat.le_refl _)
  have o3 := o2.below b3
  obtain ⟨xs, ov, _⟩ := o1'.below b3
  have hsz := b1.size
  have hne : (Value.slice A2 ts.length c2).ownBlock = none ∨ (Value.slice A2 ts.length c2).ownBlock ≠ (Value.slice A1 ts.length c1).ownBlock := own_apart (m := w1.heap.size) (fun k hk => (o1.lt k hk).2) (fun k hk => (o2.lt k hk).1)
  clear o1 o1' o2 M
  generalize w2.drewN d = w4 at *
  generalize ts.length = n at *
  go_wp2_with fail
  go_loopw [10] (fun i wr => ∃ (k : Nat) (xs' : List Value), k ≤ n ∧ i = .int .i64 k ∧ OV wr W.heap.size 29 4 A1 n c1 xs' ∧ OTk wr w1.heap.size A2 n c2 ts ∧ Below W.heap.size W wr) (fun i _ => n - (intOf i).toNat)
  case atStart => exact ⟨0, xs, by omega, rfl, ov, o3, d3⟩
  case round =>
    obtain ⟨k, xs', hk, rfl, ov', oy, bb⟩ := hrel
    clear ov o3
    by_cases hltk : k < n
    · obtain ⟨g, rfl, hg1, hg2⟩ := ov'.head (by omega)
      obtain ⟨u, hu⟩ := ov_cell ov' (j := k * 4 + 1) (by omega) (by omega)
      have hfr := ov'.free (k * 4 + 1)
      have hset := ov'.set (k * 4 + 1) (.string ⟨#[115, 112, 111, 105, 108, 116]⟩)
      have hy : OTk (wr.setCell ⟨g, k * 4 + 1, none⟩ (.string ⟨#[115, 112, 111, 105, 108, 116]⟩)) w1.heap.size A2 n c2 ts := OS.kept oy hset.2 hne (fun _ _ h => h)
      have bb' := bb.setCell (p := ⟨g, k * 4 + 1, none⟩) hg1 (.string ⟨#[115, 112, 111, 105, 108, 116]⟩)
      have HS1 := hset.1
      clear hset oy
      go_wp2_with fail
      go_roundw
      case rel => exact ⟨k + 1, _, by omega, by go_num, HS1, hy, bb'⟩
      case measure => simp [intOf] <;> omega
    · obtain rfl : k = n := by omega
      go_wp2_with fail
      refine (S.out _).mono ?_
      rintro e w5 ⟨A5, c5, rfl, o5, b5⟩
      dsimp only at o5
      have d5 := below_step bb b5 (Nat.le_refl _)
      have M := RSame_any true w5 o5.rs (oy.below b5).rs
      rw [HSELF.out] at M
      replace M := Lib.hid M
      go_wp2_with fail
      refine (M.out).mono ?_
      rintro e w6 h6
      obtain ⟨rfl, d6, rfl⟩ := h6
      have d7 := below_drewN d5 d6
      generalize w5.drewN d6 = w6 at *
      go_wp2_with fail
      refine (known16_any _).mono ?_
      rintro e w8 ⟨rfl, b8⟩
      go_wp2_with fail
      go_ret
      exact ⟨rfl, below_step d7 b8 (Nat.le_refl _)⟩
end Go.Proofs.Ytnppihlalhaldaa
