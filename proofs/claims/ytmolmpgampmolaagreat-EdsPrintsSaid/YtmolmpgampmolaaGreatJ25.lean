/-
  Texts joined: EdsTab, EdsSame, EntLent, EdsLent, EdsRRow.
  Conditions: none.
-/
import Derived.Test.YtmolmpgampmolaaGreatJ04
import Derived.Test.YtmolmpgampmolaaGreatJ07
import Derived.Test.YtmolmpgampmolaaGreatJ08
import Derived.Test.YtmolmpgampmolaaGreatJ16
import Derived.Test.YtmolmpgampmolaaGreatJ20
import Derived.Test.YtmolmpgampmolaaGreatJ22
import Derived.Test.YtmolmpgampmolaaGreatJ24
import Derived.BigQuiet
import Derived.StillTailTactics
import Derived.IntWalk
/-
  Layer 17, plain laws: what was read makes a dictionary; where a fault stands.
  Conditions: none.
-/
namespace Go.Proofs.YtmolmpgampmolaaGreat.Ed
set_option linter.unusedVariables false
set_option linter.unusedSimpArgs false
open Lx Ent
theorem newF_of {l : List En} : ∀ (k i : Nat), k + i = l.length → (∀ j, i ≤ j → j < l.length → rightS (l.getD j Dc.en0) = 0 ∧ (0 < j → befB (l.getD (j - 1) Dc.en0) (l.getD j Dc.en0) = true)) → Dc.newF l k i = (0, 0)
  | 0, i, _, _ => rfl
  | k + 1, i, hk, h => by
    obtain ⟨h1, h2⟩ := h i (Nat.le_refl _) (by omega)
    rw [Dc.newF, if_neg (by rw [h1]; simp), if_neg (by rintro ⟨h3, h4⟩; rw [h2 h3] at h4; cases h4)]
    exact newF_of k (i + 1) (by omega) fun j hj hl => h j (by omega) hl
theorem new_of {l : List En} (h96 : l.length ≤ 96) (ho : Dc.Ord l) (hr : ∀ e ∈ l, rightS e = 0) : Dc.newS l = (0, 0) := by
  unfold Dc.newS
  rw [if_neg (by omega)]
  refine newF_of _ _ (by omega) fun j _ hj => ⟨?_, fun h0 => ?_⟩
  · have : l.getD j Dc.en0 = l[j] := by simp [List.getD, List.getElem?_eq_getElem hj]
    rw [this]
    exact hr _ (List.getElem_mem hj)
  · have := ho (j - 1) (by omega)
    rwa [show j - 1 + 1 = j by omega] at this
theorem new_nil : (Dc.newS []).1 = 0 := rfl
theorem new_snoc {out : List En} {e : En} (h : (Dc.newS out).1 = 0) (hr : rightS e = 0) (h96 : out.length ≠ 96) (hb : ¬ (0 < out.length ∧ befB (out.getD (out.length - 1) Dc.en0) e = false)) : (Dc.newS (out ++ [e])).1 = 0 := by
  obtain ⟨k1, k2, k3⟩ := Dc.new_ok h
  rw [new_of]
  · rw [List.length_append, List.length_singleton]; omega
  · intro i hi
    rw [List.length_append, List.length_singleton] at hi
    have g : ∀ j, j < out.length → (out ++ [e]).getD j Dc.en0 = out.getD j Dc.en0 := fun j hj => by
      simp only [List.getD_eq_getElem?_getD]
      rw [List.getElem?_append_left hj]
    rcases Nat.lt_or_ge (i + 1) out.length with h1 | h1
    · rw [g i (by omega), g (i + 1) h1]
      exact k2 i h1
    · have h2 : i + 1 = out.length := by omega
      have g2 : (out ++ [e]).getD (i + 1) Dc.en0 = e := by
        simp only [List.getD_eq_getElem?_getD]
        rw [List.getElem?_append_right (by omega), show i + 1 - out.length = 0 by omega]
        rfl
      rw [g i (by omega), g2]
      cases hbb : befB (out.getD i Dc.en0) e with
      | true => rfl
      | false => exact absurd ⟨by omega, by rw [show out.length - 1 = i by omega]; exact hbb⟩ hb
  · intro x hx
    rcases List.mem_append.1 hx with hx | hx
    · exact k3 x hx
    · rw [List.mem_singleton.1 hx]; exact hr
theorem par_new {l : List Tk} {n : Nat} : ∀ (k p : Nat) (out : List En), (Dc.newS out).1 = 0 → (Dc.newS (parF l n k p out).1).1 = 0
  | 0, _, out, h => h
  | k + 1, p, out, h => by
    rw [parF]
    split
    · exact h
    · split
      · exact new_nil
      · split
        · exact new_nil
        · rename_i h1 h2 h3
          refine par_new k _ _ ?_
          have h3' : finS out (entE l ⟨p, 0⟩) (entV l ⟨p, 0⟩) = 0 := by simpa using h3
          unfold finS at h3'
          split at h3'
          · rename_i h4; exact absurd h3' h4
          · split at h3'
            · rename_i h4; exact absurd h3' h4
            · rename_i h5
              split at h3'
              · cases h3'
              · rename_i h6
                split at h3'
                · cases h3'
                · rename_i h7
                  exact new_snoc h (by simpa using h5) h6 h7
/-- What is read of a text makes a dictionary. -/
theorem parse_new (s : List UInt8) : (Dc.newS (parseS s).1).1 = 0 := by
  unfold parseS
  split
  · exact new_nil
  · exact par_new _ _ _ new_nil
theorem par_bad_nil {l : List Tk} {n : Nat} : ∀ (k p : Nat) (out : List En), (parF l n k p out).2.1 ≠ 0 → (parF l n k p out).1 = []
  | 0, _, out, h => absurd rfl h
  | k + 1, p, out, h => by
    rw [parF] at h ⊢
    split
    · rename_i h1; rw [if_pos h1] at h; exact absurd rfl h
    · rename_i h1
      rw [if_neg h1] at h
      split
      · rfl
      · rename_i h2
        rw [if_neg h2] at h
        split
        · rfl
        · rename_i h3
          rw [if_neg h3] at h
          exact par_bad_nil k _ _ h
theorem pl_place {s : List UInt8} : ∀ {ts : List Tk} {p : Nat}, Pl s p ts → ∀ t ∈ ts, t.pl ≤ s.length
  | [], _, _, _, h => by cases h
  | t :: ts, p, h, u, hu => by
    rcases List.mem_cons.1 hu with rfl | hu
    · exact Nat.le_of_lt h.2.1
    · exact pl_place h.2.2.2.2 u hu
theorem place_le {l : List Tk} {n : Nat} (h : ∀ t ∈ l, t.pl ≤ n) (p : Nat) : placeS l n p ≤ n := by
  unfold placeS
  split
  · rename_i hp
    have : l.getD p tk0 = l[p] := by simp [List.getD, List.getElem?_eq_getElem hp]
    rw [this]
    exact h _ (List.getElem_mem hp)
  · exact Nat.le_refl _
theorem par_place_le {l : List Tk} {n : Nat} (hl : ∀ t ∈ l, t.pl ≤ n) : ∀ (k p : Nat) (out : List En), (parF l n k p out).2.2 ≤ n
  | 0, _, _ => Nat.zero_le _
  | k + 1, p, out => by
    rw [parF]
    split
    · exact Nat.zero_le _
    · split
      · exact place_le hl _
      · split
        · exact place_le hl _
        · exact par_place_le hl k _ _
theorem parse_bad (s : List UInt8) (h : (parseS s).2.1 ≠ 0) : (parseS s).1 = [] ∧ (parseS s).2.2 ≤ s.length := by
  unfold parseS at h ⊢
  by_cases hb : 8192 < s.length
  · have : scanS s = ([], 3, 0) := if_pos hb
    rw [this, if_pos (by simp)]
    exact ⟨rfl, Nat.zero_le _⟩
  · rcases scanS_all (s := s) (by omega) with ⟨ts, h1, h2, _⟩ | ⟨ts, e, r, h1, h0, _, _⟩
    · rw [h1] at h ⊢
      dsimp only at h ⊢
      rw [if_neg (by simp)] at h ⊢
      exact ⟨par_bad_nil _ _ _ h, par_place_le (pl_place h2) _ _ _⟩
    · rw [h1]
      dsimp only
      rw [if_pos h0]
      exact ⟨rfl, Nat.sub_le _ _⟩
theorem right_dflt {e : En} (h : rightS e = 0) : e.dflt.length ≤ 256 := by
  have hc := show_ok h
  by_cases hb : 0 < (Ty.kd e.type).bits
  · rw [chk_num (num_named hb) hb] at hc
    have hs : (Ty.kd e.type).size ≤ 8 := by
      rcases kd_num e.type with h1 | h1 | h1
      · omega
      · omega
      · omega
    unfold Ty.decS at hc
    rw [if_neg (by omega)] at hc
    split at hc
    · cases hc
    · split at hc
      · cases hc
      · omega
  · exact chk_small hc (by omega)
theorem right_lens {l : List En} (h : ∀ e ∈ l, rightS e = 0) : ∀ e ∈ l, e.name.length ≤ 1000000 ∧ e.dflt.length ≤ 1000000 := fun e he => by
  have h1 := (right_more (h e he)).2.2.2.2.1
  have h2 := right_dflt (h e he)
  omega
theorem print_ok {l : List En} (h : (printS l).2.1 = 0) : (Dc.newS l).1 = 0 ∧ (allT l).length ≤ 8192 ∧ printS l = (allT l, 0, 0) := by
  unfold printS at h ⊢
  split at h
  · rename_i h1; exact absurd h h1
  · rename_i h1
    rw [if_neg h1]
    split at h
    · cases h
    · rename_i h2
      rw [if_neg h2]
      exact ⟨by simpa using h1, by omega, rfl⟩
theorem print_bad {l : List En} (h : (printS l).2.1 ≠ 0) : (printS l).1 = [] := by
  unfold printS at h ⊢
  split
  · rfl
  · rename_i h1
    rw [if_neg h1] at h
    split
    · rfl
    · rename_i h2; rw [if_neg h2] at h; exact absurd rfl h
/-- Of a dictionary's entries. -/
theorem print_new {l : List En} (h : (Dc.newS l).1 = 0) : printS l = ([], 3, 0) ∨ ((allT l).length ≤ 8192 ∧ printS l = (allT l, 0, 0)) := by
  unfold printS
  rw [if_neg (by rw [h]; simp)]
  split
  · exact .inl rfl
  · exact .inr ⟨by omega, rfl⟩
end Go.Proofs.YtmolmpgampmolaaGreat.Ed
/-
  Walks: two entries, two lists of entries that are alike (the reference's).
  Conditions: none.
-/
namespace Go.Proofs.YtmolmpgampmolaaGreat
set_option linter.unusedVariables false
set_option linter.unusedSimpArgs false
open Go.RowKit Go.Sort
set_option maxRecDepth 100000 in
set_option maxHeartbeats 4000000 in
theorem RESame_eq (e : Ent.En) {A A' : Option Addr} {n c n' c' B B' : Nat} (w : World) (hb : RB w B A n c e.dflt) (hb' : RB w B' A' n' c' e.dflt) (hB : B ≤ w.heap.size) (hB' : B' ≤ w.heap.size) : Calls Tryz.prog 25 #[enV e A n c, enV e A' n' c'] w fun x w' => x = .returned (.bool true) ∧ Below w.heap.size w w' := by
  obtain ⟨ix, sb, nm, ty, ac, mp, st, mx, lo, hi, df⟩ := e
  unfold enV
  dsimp only at hb hb' ⊢
  have b2 := alloc_two w (.cells #[.int .i64 ix, .int .i64 sb, .string (T nm), .int .i64 ty, .int .i64 ac, .bool mp, .bool st, .int .i64 mx, .int .i64 lo, .int .i64 hi, .slice A n c] 31) (.cells #[.int .i64 ix, .int .i64 sb, .string (T nm), .int .i64 ty, .int .i64 ac, .bool mp, .bool st, .int .i64 mx, .int .i64 lo, .int .i64 hi, .slice A' n' c'] 31)
  have c1 := convb (hb.below (b2.mono hB))
  have c2 := convb (hb'.below (b2.mono hB'))
  clear hb hb'
  go_enter Tryz.func25, Tryz.ntmps25
  go_wp2_with fail
  go_ret
  exact ⟨ret_bool (by simp), b2⟩
theorem enC_rb {w : World} {B : Nat} {e : Ent.En} {cs : List Value} (h : EnC w B e cs) : ∃ A n c, cs = enL e A n c ∧ RB w B A n c e.dflt := h
set_option maxRecDepth 100000 in
set_option maxHeartbeats 4000000 in
theorem RAll15_eq {A A' : Option Addr} {n c c' B1 B1' B2 B2' : Nat} {es : List Ent.En} (w : World) (h : REn w B1 B1' A n c es) (h' : REn w B2 B2' A' n c' es) (h1 : B1 ≤ w.heap.size) (h1' : B1' ≤ w.heap.size) (h2 : B2 ≤ w.heap.size) (h2' : B2' ≤ w.heap.size) :
    Calls Tryz.prog 8 #[.slice A n c, .slice A' n c'] w fun x w' => x = .returned (.bool true) ∧ Below w.heap.size w w' := by
  have hn := h.lt
  have HH := Lib.hid h
  have HH' := Lib.hid h'
  clear h h'
  go_enter Tryz.func8, Tryz.ntmps8
  go_wp2_with fail
  go_loopw [5] (fun i wr => ∃ k : Nat, k ≤ n ∧ i = .int .i64 k ∧ Below w.heap.size w wr) (fun i _ => n - (intOf i).toNat)
  case atStart => exact ⟨0, by omega, rfl, Below.refl _ _⟩
  case round =>
    obtain ⟨k, hk, rfl, bb⟩ := hrel
    by_cases hkn : k < n
    · obtain ⟨b, o, A1, n1, c1, rfl, hbB, hr, hc⟩ := HH.out.at_ hkn
      obtain ⟨b', o', A2, n2, c2, rfl, hbB', hr', hc'⟩ := HH'.out.at_ hkn
      generalize es.getD k Dc.en0 = e at *
      have SM := fun (w1 : World) (q : Below w.heap.size w w1) => RESame_eq e w1 (hr.below (q.mono h1')) (hr'.below (q.mono h2')) (Nat.le_trans h1' q.size) (Nat.le_trans h2' q.size)
      unfold enV at SM
      have SM2 := Lib.hid (SM _ (bb.trans ((below_drew wr).mono bb.size)))
      have i0 : (0 : Int) ≤ (k : Int) := by omega
      have i1 : (k : Int) < (n : Int) := by omega
      have hbw : b < w.heap.size := by omega
      have hbw' : b' < w.heap.size := by omega
      have p0 := cell_regrown ((bb.cell (p := ⟨b, o + k * 11 + 0, none⟩) hbw).trans (hc 0 _ rfl))
      have q0 := cell_regrown ((bb.cell (p := ⟨b', o' + k * 11 + 0, none⟩) hbw').trans (hc' 0 _ rfl))
      have p1 := cell_regrown ((bb.cell (p := ⟨b, o + k * 11 + 1, none⟩) hbw).trans (hc 1 _ rfl))
      have q1 := cell_regrown ((bb.cell (p := ⟨b', o' + k * 11 + 1, none⟩) hbw').trans (hc' 1 _ rfl))
      have p2 := cell_regrown ((bb.cell (p := ⟨b, o + k * 11 + 2, none⟩) hbw).trans (hc 2 _ rfl))
      have q2 := cell_regrown ((bb.cell (p := ⟨b', o' + k * 11 + 2, none⟩) hbw').trans (hc' 2 _ rfl))
      have p3 := cell_regrown ((bb.cell (p := ⟨b, o + k * 11 + 3, none⟩) hbw).trans (hc 3 _ rfl))
      have q3 := cell_regrown ((bb.cell (p := ⟨b', o' + k * 11 + 3, none⟩) hbw').trans (hc' 3 _ rfl))
      have p4 := cell_regrown ((bb.cell (p := ⟨b, o + k * 11 + 4, none⟩) hbw).trans (hc 4 _ rfl))
      have q4 := cell_regrown ((bb.cell (p := ⟨b', o' + k * 11 + 4, none⟩) hbw').trans (hc' 4 _ rfl))
      have p5 := cell_regrown ((bb.cell (p := ⟨b, o + k * 11 + 5, none⟩) hbw).trans (hc 5 _ rfl))
      have q5 := cell_regrown ((bb.cell (p := ⟨b', o' + k * 11 + 5, none⟩) hbw').trans (hc' 5 _ rfl))
      have p6 := cell_regrown ((bb.cell (p := ⟨b, o + k * 11 + 6, none⟩) hbw).trans (hc 6 _ rfl))
      have q6 := cell_regrown ((bb.cell (p := ⟨b', o' + k * 11 + 6, none⟩) hbw').trans (hc' 6 _ rfl))
      have p7 := cell_regrown ((bb.cell (p := ⟨b, o + k * 11 + 7, none⟩) hbw).trans (hc 7 _ rfl))
      have q7 := cell_regrown ((bb.cell (p := ⟨b', o' + k * 11 + 7, none⟩) hbw').trans (hc' 7 _ rfl))
      have p8 := cell_regrown ((bb.cell (p := ⟨b, o + k * 11 + 8, none⟩) hbw).trans (hc 8 _ rfl))
      have q8 := cell_regrown ((bb.cell (p := ⟨b', o' + k * 11 + 8, none⟩) hbw').trans (hc' 8 _ rfl))
      have p9 := cell_regrown ((bb.cell (p := ⟨b, o + k * 11 + 9, none⟩) hbw).trans (hc 9 _ rfl))
      have q9 := cell_regrown ((bb.cell (p := ⟨b', o' + k * 11 + 9, none⟩) hbw').trans (hc' 9 _ rfl))
      have p10 := cell_regrown ((bb.cell (p := ⟨b, o + k * 11 + 10, none⟩) hbw).trans (hc 10 _ rfl))
      have q10 := cell_regrown ((bb.cell (p := ⟨b', o' + k * 11 + 10, none⟩) hbw').trans (hc' 10 _ rfl))
      simp only [Nat.add_zero] at p0 q0
      clear hc hc' hr hr' SM
      go_wp2_with fail
      refine region_later (by kernel_rfl) ?_
      refine phase_later (by kernel_rfl) 2 (below_drew _) [0, 1, 4, 5, 2, 6, 3, 7] rfl (by kernel_rfl) ?_
      simp only [picks, nth]
      repeat (go_big_quiet_step (fail))
      refine wpQuiet_nil ?_
      refine phase_op 8 1 rfl (by kernel_rfl) (by decide) ?_
      simp only [nth]
      go_wp2_with fail
      refine (SM2.out).mono ?_
      rintro e w2 ⟨rfl, b2⟩
      have b3 : Below wr.heap.size wr w2 := (below_drew wr).trans b2
      go_wp2_with fail
      refine behind_later b3 ?_
      refine phase_later (by kernel_rfl) 0 (Below.refl _ _) [9] rfl (by kernel_rfl) ?_
      simp only [picks, nth]
      repeat (go_big_quiet_step (fail))
      refine wpQuiet_nil ?_
      refine phase_end (by kernel_rfl) ?_
      have d3 := below_step bb b3 (Nat.le_refl _)
      go_wp2_with fail
      go_roundw
      case rel => exact ⟨k + 1, by omega, by go_num, bb.trans (b3.mono bb.size)⟩
      case measure => simp [intOf] <;> omega
    · obtain rfl : k = n := by omega
      go_wp2_with fail
      go_ret
      exact ⟨rfl, bb⟩
end Go.Proofs.YtmolmpgampmolaaGreat
/-
  Walk: Lent of layer 14's reference.
  Conditions: none.
-/
namespace Go.Proofs.YtmolmpgampmolaaGreat
set_option linter.unusedVariables false
set_option linter.unusedSimpArgs false
open Go.RowKit
set_option maxRecDepth 100000 in
set_option maxHeartbeats 4000000 in
theorem RLent_any (e : Ent.En) {A : Option Addr} {n c B : Nat} (w : World) (hb : RB w B A n c e.dflt) (hn : n < 140737488355328) (hB : B ≤ w.heap.size) :
    Calls Tryz.prog 26 #[enV e A n c] w fun x w' => ∃ A1 c1, x = .returned (enV e A1 n c1) ∧ OB w' w.heap.size A1 n c1 e.dflt ∧ Below w.heap.size w w' := by
  obtain ⟨ix, sb, nm, ty, ac, mp, st, mx, lo, hi, df⟩ := e
  dsimp only at hb
  unfold enV
  dsimp only
  have hb2 := (hb.alloc hB (.cells #[.int .i64 ix, .int .i64 sb, .string (T nm), .int .i64 ty, .int .i64 ac, .bool mp, .bool st, .int .i64 mx, .int .i64 lo, .int .i64 hi, .slice A n c] 31)).alloc (by simp; omega) (.cells #[.int .i64 0, .int .i64 0, .string ⟨#[]⟩, .int .i64 0, .int .i64 0, .bool false, .bool false, .int .i64 0, .int .i64 0, .int .i64 0, .slice none 0 0] 31)
  have K1 := (Blk.new w 31 #[.int .i64 ix, .int .i64 sb, .string (T nm), .int .i64 ty, .int .i64 ac, .bool mp, .bool st, .int .i64 mx, .int .i64 lo, .int .i64 hi, .slice A n c]).alloc (.cells #[.int .i64 0, .int .i64 0, .string ⟨#[]⟩, .int .i64 0, .int .i64 0, .bool false, .bool false, .int .i64 0, .int .i64 0, .int .i64 0, .slice none 0 0] 31)
  have K2 := Blk.new (w.alloc (.cells #[.int .i64 ix, .int .i64 sb, .string (T nm), .int .i64 ty, .int .i64 ac, .bool mp, .bool st, .int .i64 mx, .int .i64 lo, .int .i64 hi, .slice A n c] 31)) 31 #[.int .i64 0, .int .i64 0, .string ⟨#[]⟩, .int .i64 0, .int .i64 0, .bool false, .bool false, .int .i64 0, .int .i64 0, .int .i64 0, .slice none 0 0]
  have d0 := alloc_two w (.cells #[.int .i64 ix, .int .i64 sb, .string (T nm), .int .i64 ty, .int .i64 ac, .bool mp, .bool st, .int .i64 mx, .int .i64 lo, .int .i64 hi, .slice A n c] 31) (.cells #[.int .i64 0, .int .i64 0, .string ⟨#[]⟩, .int .i64 0, .int .i64 0, .bool false, .bool false, .int .i64 0, .int .i64 0, .int .i64 0, .slice none 0 0] 31)
  clear hb
  go_enter Tryz.func26, Tryz.ntmps26
  go_wp2_with (at_builtin; refine wpList_appb_nil etb rfl (.tmp 4) (.tmp 6) rfl rfl rfl w.heap.size hb2 (by omega) (by simp; omega) ?_; intro A1 c1 w1 o1 b1; have E1 := (K1.later b1).eleven; have E2 := (K2.later b1).eleven; simp only [World.size_alloc] at E2)
  replace K2 := K2.later b1
  have d1 := below_step d0 b1 (Nat.le_refl _)
  simp only [World.size_alloc] at o1 K2
  have hne : w.heap.size + 1 ≠ w.heap.size := by omega
  have K3 := (K2.far (p := ⟨w.heap.size, 10, none⟩) hne (.slice A1 n c1)).store11 (.int .i64 ix) (.int .i64 sb) (.string (T nm)) (.int .i64 ty) (.int .i64 ac) (.bool mp) (.bool st) (.int .i64 mx) (.int .i64 lo) (.int .i64 hi) (.slice A1 n c1)
  have R := K3.eleven.1
  have d2 := below_set11 (g := w.heap.size + 1) (d1.setCell (p := ⟨w.heap.size, 10, none⟩) (Nat.le_refl _) (.slice A1 n c1)) (by omega) (.int .i64 ix) (.int .i64 sb) (.string (T nm)) (.int .i64 ty) (.int .i64 ac) (.bool mp) (.bool st) (.int .i64 mx) (.int .i64 lo) (.int .i64 hi) (.slice A1 n c1)
  have o2 := ((o1.far (g := w.heap.size) (by omega) 10 (.slice A1 n c1)).far11 (g := w.heap.size + 1) (by omega) (.int .i64 ix) (.int .i64 sb) (.string (T nm)) (.int .i64 ty) (.int .i64 ac) (.bool mp) (.bool st) (.int .i64 mx) (.int .i64 lo) (.int .i64 hi) (.slice A1 n c1)).more (base' := w.heap.size) (by omega)
  exact bodyPost_ret (v := .agg #[.int .i64 ix, .int .i64 sb, .string (T nm), .int .i64 ty, .int .i64 ac, .bool mp, .bool st, .int .i64 mx, .int .i64 lo, .int .i64 hi, .slice A1 n c1]) (by simp [results, Tryz.results26, go_sem, R]) rfl ⟨A1, c1, rfl, o2, d2⟩
end Go.Proofs.YtmolmpgampmolaaGreat
/-
  Walk: Lent of layer 15's reference; entries whose bytes are spoilt.
  Conditions: none.
-/
namespace Go.Proofs.YtmolmpgampmolaaGreat
set_option linter.unusedVariables false
set_option linter.unusedSimpArgs false
open Go.RowKit Go.Sort
/-- An entry's cells, its bytes to be written to, in blocks below m. -/
def SpE (w : World) (base m : Nat) (e : Ent.En) (cs : List Value) : Prop := ∃ A n c, cs = enL e A n c ∧ WB w base A n c ∧ n = e.dflt.length ∧ ∀ k, (Value.slice A n c).ownBlock = some k → k < m
def XRow (w : World) (base m : Nat) (A : Option Addr) (n c : Nat) (es : List Ent.En) : Prop := OS (SpE w base m) w base 31 11 A n c es
section
variable {w w' : World} {base m g n c : Nat} {A : Option Addr} {es : List Ent.En}
theorem OEn.xr (h : OEn w base A n c es) : XRow w base w.heap.size A n c es := by
  obtain ⟨xs, h1, h2⟩ := h
  refine ⟨xs, h1, h2.imp fun e cs k => ?_⟩
  obtain ⟨A1, n1, c1, k1, k2⟩ := k
  exact ⟨A1, n1, c1, k1, k2.wb, k2.rb.len.symm, fun q hq => (k2.lt q hq).2⟩
theorem XRow.sp (h : XRow w base m A n c es) (k : SpU w w') : XRow w' base m A n c es := by
  obtain ⟨xs, h1, h2⟩ := h
  refine ⟨xs, h1.sp k (by decide), h2.imp fun e cs x => ?_⟩
  obtain ⟨A1, n1, c1, k1, k2, k3, k4⟩ := x
  exact ⟨A1, n1, c1, k1, k2.sp k, k3, k4⟩
theorem XRow.below (h : XRow w base m A n c es) (hb : Below w.heap.size w w') : XRow w' base m A n c es := h.sp (SpU.below hb)
theorem XRow.at_ (h : XRow w base m A n c es) {i : Nat} (hi : i < n) : ∃ b o A1 n1 c1, A = some ⟨b, o, none⟩ ∧ WB w base A1 n1 c1 ∧ n1 = (es.getD i Dc.en0).dflt.length ∧ (∀ k, (Value.slice A1 n1 c1).ownBlock = some k → k < m) ∧ w.cell? ⟨b, o + i * 11 + 10, none⟩ = some (.slice A1 n1 c1) := by
  have hl : es.length = n := OS.len h (by decide)
  have hf : es[i]? = some (es.getD i Dc.en0) := by simp [List.getD, List.getElem?_eq_getElem (show i < es.length by omega)]
  obtain ⟨b, o, cs, rfl, hb, ⟨A1, n1, c1, rfl, k2, k3, k4⟩, hc⟩ := RS.at_ (OS.rs h) (by decide) hf
  exact ⟨b, o, A1, n1, c1, rfl, k2, k3, k4, hc 10 _ (by decide) rfl⟩
/-- What lies beyond is as it was. -/
theorem OEn.grown {v : Value} (h : OEn w base A n c es) (hg : w.grownBy w' v.ownBlock) (hv : ∀ k, v.ownBlock = some k → k < base) : OEn w' base A n c es := by
  cases hk : v.ownBlock with
  | none =>
    have hm := Mv.of_grown hg
    refine h.below (hm.below (Nat.le_refl _) fun b hb => ?_)
    rw [hk] at hb
    cases hb
  | some k =>
    refine h.past (hv k hk) ((Mv.of_grown hg).mono fun b _ hb => ?_)
    rw [hk] at hb
    cases hb
    rfl
end
set_option maxRecDepth 100000 in
set_option maxHeartbeats 8000000 in
theorem RLent15_any {A : Option Addr} {n c B B' : Nat} {es : List Ent.En} (w : World) (h : REn w B B' A n c es) (hB : B ≤ w.heap.size) (hB' : B' ≤ B) (hn : n ≤ 1000) (hd : ∀ e ∈ es, e.dflt.length ≤ 1000000) : Calls Tryz.prog 11 #[.slice A n c] w fun e w' => ∃ A1 c1, e = .returned (.slice A1 n c1) ∧ OEn w' w.heap.size A1 n c1 es ∧ Below w.heap.size w w' := by
  have HL := Lib.hid h.len
  have HH := Lib.hid h
  have HD := Lib.hid hd
  clear h hd
  go_enter Tryz.func11, Tryz.ntmps11
  go_wp2_with fail
  go_loopw [3, 4] (fun v i wr => ∃ (k : Nat) (A1 : Option Addr) (c1 : Nat), k ≤ n ∧ v = .slice A1 k c1 ∧ i = .int .i64 k ∧ OEn wr w.heap.size A1 k c1 (es.take k) ∧ Below w.heap.size w wr) (fun _ i _ => n - (intOf i).toNat)
  case atStart => exact ⟨0, none, 0, Nat.zero_le _, rfl, rfl, OEn.none_ _ _, Below.refl _ _⟩
  case round =>
    obtain ⟨k, A1, c1, hk, rfl, rfl, OO, bb⟩ := hrel
    by_cases hkn : k < n
    · obtain ⟨b, o, A2, n2, c2, rfl, hbB, hr, hc⟩ := HH.out.at_ hkn
      have hkl : k < es.length := by rw [HL.out]; exact hkn
      have hge : es.getD k Dc.en0 = es[k] := by simp [List.getD, List.getElem?_eq_getElem hkl]
      have hdl := HD.out (es.getD k Dc.en0) (by rw [hge]; exact List.getElem_mem _)
      have htk : es.take (k + 1) = es.take k ++ [es.getD k Dc.en0] := by rw [hge, List.take_append_getElem hkl]
      have hr2 := hr.len
      generalize es.getD k Dc.en0 = e at *
      have hbw : b < w.heap.size := by omega
      have LE := RLent_any e wr (hr.below (bb.mono (Nat.le_trans hB' hB))) (by omega) (Nat.le_trans (Nat.le_trans hB' hB) bb.size)
      unfold enV at LE
      have i0 : (0 : Int) ≤ (k : Int) := by omega
      have i1 : (k : Int) < (n : Int) := by omega
      have a0 := (bb.cell (p := ⟨b, o + k * 11 + 0, none⟩) hbw).trans (hc 0 _ rfl)
      have a1 := (bb.cell (p := ⟨b, o + k * 11 + 1, none⟩) hbw).trans (hc 1 _ rfl)
      have a2 := (bb.cell (p := ⟨b, o + k * 11 + 2, none⟩) hbw).trans (hc 2 _ rfl)
      have a3 := (bb.cell (p := ⟨b, o + k * 11 + 3, none⟩) hbw).trans (hc 3 _ rfl)
      have a4 := (bb.cell (p := ⟨b, o + k * 11 + 4, none⟩) hbw).trans (hc 4 _ rfl)
      have a5 := (bb.cell (p := ⟨b, o + k * 11 + 5, none⟩) hbw).trans (hc 5 _ rfl)
      have a6 := (bb.cell (p := ⟨b, o + k * 11 + 6, none⟩) hbw).trans (hc 6 _ rfl)
      have a7 := (bb.cell (p := ⟨b, o + k * 11 + 7, none⟩) hbw).trans (hc 7 _ rfl)
      have a8 := (bb.cell (p := ⟨b, o + k * 11 + 8, none⟩) hbw).trans (hc 8 _ rfl)
      have a9 := (bb.cell (p := ⟨b, o + k * 11 + 9, none⟩) hbw).trans (hc 9 _ rfl)
      have a10 := (bb.cell (p := ⟨b, o + k * 11 + 10, none⟩) hbw).trans (hc 10 _ rfl)
      simp only [Nat.add_zero] at a0
      have HTK := Lib.hid htk
      replace LE := Lib.hid LE
      have h2 : n2 = e.dflt.length := by omega
      subst h2
      clear hc hr hkl hge htk hr2
      go_wp2_with fail
      refine (LE.out).mono ?_
      rintro x w3 ⟨A3, c3, rfl, o3, b3⟩
      have O3 := OO.below b3
      have d3 := below_step bb b3 (Nat.le_refl _)
      have o3' := o3.more bb.size
      have b4 := alloc_one w3 (.cells #[.int .i64 e.index, .int .i64 e.sub, .string (T e.name), .int .i64 e.type, .int .i64 e.access, .bool e.map, .bool e.store, .int .i64 e.max, .int .i64 e.low, .int .i64 e.high, .slice A3 e.dflt.length c3] 31)
      have O4 := O3.below b4
      have hnew := RV.new w3 31 (size := 11) (cs := enL e A3 e.dflt.length c3) rfl
      have hf4 : EnB (w3.alloc (.cells #[.int .i64 e.index, .int .i64 e.sub, .string (T e.name), .int .i64 e.type, .int .i64 e.access, .bool e.map, .bool e.store, .int .i64 e.max, .int .i64 e.low, .int .i64 e.high, .slice A3 e.dflt.length c3] 31)) w.heap.size e (enL e A3 e.dflt.length c3) := ⟨A3, _, c3, rfl, o3'.below b4⟩
      have d4 := below_step d3 b4 (Nat.le_refl _)
      clear LE a0 a1 a2 a3 a4 a5 a6 a7 a8 a9 a10
      go_wp2_with (at_builtin; refine wpList_apps2 eten (fun w1 => EnB w1 w.heap.size) rfl (.tmp 11) (.tmp 17) rfl rfl rfl w.heap.size O4 e hnew hf4 (en_oneCell _ _ _ _) (by omega) (by omega) d4.size (fun w1 A1 n1 c1 xs hv hg f cs hf => hf.beside hv (by decide) hg) ?_; intro A5 c5 w5 o5 b5 g5 _)
      go_roundw
      case rel => exact ⟨k + 1, A5, c5, by omega, rfl, by go_num, by rw [HTK.out]; exact o5, d4.trans b5⟩
      case measure => simp [intOf] <;> omega
    · obtain rfl : k = n := by omega
      have htk : es.take k = es := by rw [← HL.out]; exact List.take_length
      rw [htk] at OO
      go_wp2_with fail
      go_ret
      exact ⟨A1, c1, rfl, OO, bb⟩
end Go.Proofs.YtmolmpgampmolaaGreat
/-
  Walks: is, take, need, small, rights of the reference of layer 17.
  Conditions: none.
-/
namespace Go.Proofs.YtmolmpgampmolaaGreat
set_option linter.unusedVariables false
set_option linter.unusedSimpArgs false
open Go.RowKit Go.Sort
/-- The reference's reader, in memory: its tokens lie below it. -/
structure RdR (w : World) (g : Nat) (A : Option Addr) (n c : Nat) (ts : List Lx.Tk) (s : Ed.R) : Prop where
  blk : Blk w g 54 #[.slice A n c, .int .i64 (s.pos : Int), .bool (s.err != 0), .int .i64 s.err]
  tok : RTk w g A n c ts
  le : s.pos ≤ n
section
variable {w w' : World} {g : Nat} {A : Option Addr} {n c : Nat} {ts : List Lx.Tk} {s : Ed.R}
theorem RdR.mv {G : Nat → Prop} (h : RdR w g A n c ts s) (hm : Mv G w w') (hG : ∀ q, G q → g < q) : RdR w' g A n c ts s := ⟨h.blk.mv hm fun e => Nat.lt_irrefl _ (hG g e), h.tok.mvf hm (Nat.le_of_lt h.blk.lt) fun q e => Nat.le_of_lt (hG q e), h.le⟩
theorem RdR.below (h : RdR w g A n c ts s) (hb : Below w.heap.size w w') : RdR w' g A n c ts s := h.mv (Mv.of_new hb fun _ => False) fun _ h => h.elim
theorem RdR.step (h : RdR w g A n c ts s) (hn : s.pos < n) : RdR (w.setCell ⟨g, 1, none⟩ (.int .i64 ((s.pos : Int) + 1))) g A n c ts (Ed.stepS s) := by
  refine ⟨?_, h.tok.mvf (Mv.setCell w ⟨g, 1, none⟩ _) (Nat.le_of_lt h.blk.lt) (fun q e => by subst e; exact Nat.le_refl _), hn⟩
  have := h.blk.set_ 1 (.int .i64 ((s.pos : Int) + 1))
  exact this
theorem RdR.fail (h : RdR w g A n c ts s) (he : s.err = 0) (e : Int) (h0 : e ≠ 0) : RdR ((w.setCell ⟨g, 2, none⟩ (.bool true)).setCell ⟨g, 3, none⟩ (.int .i64 e)) g A n c ts (Ed.failS s e) := by
  have h2 : Ed.failS s e = ⟨s.pos, e⟩ := by unfold Ed.failS; rw [if_pos he]
  rw [h2]
  have hb : ((e != 0) : Bool) = true := by simpa using h0
  refine ⟨?_, ?_, h.le⟩
  · show Blk _ _ _ #[_, _, .bool (e != 0), _]
    rw [hb]
    exact (h.blk.set_ 2 (.bool true)).set_ 3 (.int .i64 e)
  · exact (h.tok.mvf (Mv.setCell w ⟨g, 2, none⟩ _) (Nat.le_of_lt h.blk.lt) (fun q e => by subst e; exact Nat.le_refl _)).mvf (Mv.setCell _ ⟨g, 3, none⟩ _) (Nat.le_of_lt (h.blk.set_ 2 (.bool true)).lt) (fun q e => by subst e; exact Nat.le_refl _)
theorem RdR.failn (h : RdR w g A n c ts s) (he : s.err ≠ 0) (e : Int) : RdR w g A n c ts (Ed.failS s e) := by
  have h2 : Ed.failS s e = s := by unfold Ed.failS; rw [if_neg he]
  rw [h2]
  exact h
set_option maxRecDepth 100000 in
set_option maxHeartbeats 4000000 in
theorem ris_any (h : RdR w g A n c ts s) (k : Int) (y : List UInt8) : Calls Tryz.prog 109 #[.pointer (some ⟨g, 0, none⟩), .int .i64 k, .string (T y)] w fun e w' => e = .returned (.bool (Ed.isS ts s k y)) ∧ Below w.heap.size w w' := by
  have F := h.blk.four
  have hl := h.tok.len
  have hle := h.le
  have e1 := T_toList y
  by_cases he : s.err = 0
  case neg =>
    have hi : Ed.isS ts s k y = false := Ed.is_none (by unfold Ed.nextS; rw [if_pos (.inl he)])
    have e2 : (s.err != 0) = true := by simpa using he
    rw [hi]
    rw [e2] at F
    clear h he hi
    go_enter Tryz.func109, Tryz.ntmps109
    go_wp2_with fail
    go_quiet (fail)
    go_wp2_with fail
    go_ret
    exact ⟨rfl, below_drewN (Below.refl _ _) nq⟩
  have e2 : (s.err != 0) = false := by simpa using he
  rw [e2] at F
  by_cases hp : s.pos < n
  case neg =>
    have hi : Ed.isS ts s k y = false := Ed.is_none (by unfold Ed.nextS; rw [if_pos (.inr (by omega))])
    have hp2 : (n : Int) ≤ (s.pos : Int) := by omega
    have hp3 : decide (s.pos < n) = false := decide_eq_false hp
    rw [hi]
    clear h he hi
    go_enter Tryz.func109, Tryz.ntmps109
    go_wp2_with fail
    go_quiet (fail)
    go_wp2_with fail
    go_ret
    exact ⟨rfl, below_drewN (Below.refl _ _) nq⟩
  have hn : Ed.nextS ts s = some (ts.getD s.pos tkz) := by unfold Ed.nextS; rw [if_neg (by intro h1; rcases h1 with h1 | h1; exact h1 he; omega)]; rfl
  have hi := Ed.is_some (k := k) (x := y) hn
  have hp2 : (s.pos : Int) < (n : Int) := by omega
  have hp3 : decide (s.pos < n) = true := decide_eq_true hp
  obtain ⟨b, o, rfl, hb, q0, q1, q2, q3⟩ := h.tok.at_ hp
  generalize ts.getD s.pos tkz = t at *
  obtain ⟨tk, tt, tn, tp⟩ := t
  dsimp only at q0 q1 q2 q3
  unfold Ed.hitB at hi
  dsimp only at hi
  have t2 := T_toList tt
  by_cases hk : tk = k
  case neg =>
    have hk2 : (tk == k) = false := by simpa using hk
    have hi' : Ed.isS ts s k y = false := by rw [hi, hk2]; rfl
    rw [hi']
    clear h he hn hi hi' hk
    go_enter Tryz.func109, Tryz.ntmps109
    go_wp2_with fail
    go_quiet (fail)
    go_wp2_with fail
    go_ret
    exact ⟨rfl, below_drewN (Below.refl _ _) nq⟩
  subst hk
  by_cases hy : y = []
  · subst hy
    have hi' : Ed.isS ts s tk [] = true := by rw [hi]; simp
    rw [hi']
    clear h he hn hi hi'
    go_enter Tryz.func109, Tryz.ntmps109
    go_wp2_with fail
    go_quiet (fail)
    go_wp2_with fail
    go_ret
    exact ⟨rfl, below_drewN (Below.refl _ _) nq⟩
  have hy2 : y.isEmpty = false := by simpa using hy
  have hy3 : (y == []) = false := by simpa using hy
  by_cases ht : tt = y
  · subst ht
    have hi' : Ed.isS ts s tk tt = true := by rw [hi]; simp
    rw [hi']
    clear h he hn hi hi' hy
    go_enter Tryz.func109, Tryz.ntmps109
    go_wp2_with fail
    go_quiet (fail)
    go_wp2_with fail
    go_ret
    exact ⟨rfl, below_drewN (Below.refl _ _) nq⟩
  · have ht2 : (tt == y) = false := by simpa using ht
    have hi' : Ed.isS ts s tk y = false := by rw [hi, ht2, hy2]; simp
    rw [hi']
    clear h he hn hi hi' hy ht
    go_enter Tryz.func109, Tryz.ntmps109
    go_wp2_with fail
    go_quiet (fail)
    go_wp2_with fail
    go_ret
    exact ⟨rfl, below_drewN (Below.refl _ _) nq⟩
set_option maxRecDepth 100000 in
set_option maxHeartbeats 4000000 in
theorem rtake_any (h : RdR w g A n c ts s) (k : Int) (y : List UInt8) : Calls Tryz.prog 55 #[.pointer (some ⟨g, 0, none⟩), .int .i64 k, .string (T y)] w fun e w' => e = .returned (.bool (Ed.isS ts s k y)) ∧ Mv (fun q => q = g) w w' ∧ RdR w' g A n c ts (Ed.takeS ts s k y) := by
  have IS := ris_any h k y
  have HH := Lib.hid h
  have hl := h.tok.len
  have hlt := h.tok.lt
  cases hi : Ed.isS ts s k y
  · rw [take_no hi]
    rw [hi] at IS
    replace IS := Lib.hid IS
    clear h hi
    go_enter Tryz.func55, Tryz.ntmps55
    go_wp2_with fail
    refine (IS.out).mono ?_
    rintro e w1 ⟨rfl, b1⟩
    go_wp2_with fail
    go_ret
    exact ⟨rfl, Mv.of_new b1 _, HH.out.below b1⟩
  · rw [take_yes hi]
    have hp := (Ed.is_lt hi).1
    rw [hi] at IS
    replace IS := Lib.hid IS
    clear h hi
    go_enter Tryz.func55, Tryz.ntmps55
    go_wp2_with fail
    refine (IS.out).mono ?_
    rintro e w1 ⟨rfl, b1⟩
    have H1 := HH.out.below b1
    have F1 := H1.blk.four
    have S1 := Lib.hid (H1.step (by omega))
    clear H1
    go_wp2_with fail
    go_ret
    exact ⟨rfl, (Mv.of_new b1 (fun q => q = g)).trans (Mv.setCell _ ⟨g, 1, none⟩ _) (fun _ _ e => e), S1.out⟩
theorem small_any (z : Int) (w : World) : Calls Tryz.prog 108 #[.int .i64 z] w fun e w' => e = .returned (.int .i64 (Ed.cntV z)) ∧ w = w' := by
  unfold Ed.cntV
  by_cases h1 : z < 0
  · rw [if_pos (.inl h1)]
    have e1 : decide (z < 0) = true := decide_eq_true h1
    go_enter Tryz.func108, Tryz.ntmps108
    go_wp2_with fail
    go_ret
    exact ⟨rfl, rfl⟩
  · have e1 : decide (z < 0) = false := decide_eq_false h1
    by_cases h2 : 65536 < z
    · rw [if_pos (.inr h2)]
      have e2 : decide (65536 < z) = true := decide_eq_true h2
      go_enter Tryz.func108, Tryz.ntmps108
      go_wp2_with fail
      go_ret
      exact ⟨rfl, rfl⟩
    · rw [if_neg (by rintro (h | h); exact h1 h; exact h2 h)]
      have e2 : decide (65536 < z) = false := decide_eq_false h2
      go_enter Tryz.func108, Tryz.ntmps108
      go_wp2_with fail
      go_ret
      exact ⟨rfl, rfl⟩
set_option maxHeartbeats 1000000 in
theorem rrights_any (a : Nat) (h1 : 1 ≤ a) (h4 : a ≤ 4) (w : World) : Calls Tryz.prog 40 #[.int .i64 (a : Int)] w fun e w' => e = .returned (.string (T (Ed.wordS (a : Int)))) ∧ Below w.heap.size w w' := by
  rcases (show a = 1 ∨ a = 2 ∨ a = 3 ∨ a = 4 by omega) with rfl | rfl | rfl | rfl
  all_goals
    go_enter Tryz.func40, Tryz.ntmps40
    go_wp2_with fail
    go_ret
    exact ⟨rfl, alloc_one _ _⟩
def needX (l : List Lx.Tk) (s : Ed.R) (k : Int) (x : List UInt8) : Lx.Tk := if Ed.isS l s k x = true then l.getD s.pos Lx.tk0 else Lx.tk0
theorem needX_nil (l : List Lx.Tk) (s : Ed.R) (k : Int) : needX l s k [] = Ed.needT l s k := rfl
theorem mv_set4 (w : World) (r : Nat) (u0 u1 u2 u3 : Value) : Mv (fun q => q = r) w ((((w.setCell ⟨r, 0, none⟩ u0).setCell ⟨r, 1, none⟩ u1).setCell ⟨r, 2, none⟩ u2).setCell ⟨r, 3, none⟩ u3) :=
  (((Mv.setCell w ⟨r, 0, none⟩ u0).trans (Mv.setCell _ ⟨r, 1, none⟩ u1) fun _ _ e => e).trans (Mv.setCell _ ⟨r, 2, none⟩ u2) fun _ _ e => e).trans (Mv.setCell _ ⟨r, 3, none⟩ u3) fun _ _ e => e
theorem Mv.onto {F : Nat → Prop} {w w1 w2 : World} {r : Nat} (h : Mv F w w1) (hr : w.heap.size ≤ r) (k : Mv (fun q => q = r) w1 w2) : Mv F w w2 := h.trans k fun b hb e => absurd hb (by have e' : b = r := e; omega)
set_option maxRecDepth 100000 in
set_option maxHeartbeats 4000000 in
theorem rneed_any (h : RdR w g A n c ts s) (k : Int) (y : List UInt8) : Calls Tryz.prog 56 #[.pointer (some ⟨g, 0, none⟩), .int .i64 k, .string (T y)] w fun e w' => e = .returned (tkW (needX ts s k y)) ∧ Mv (fun q => q = g) w w' ∧ RdR w' g A n c ts (Ed.needR ts s k y) := by
  have hg := h.blk.lt
  have b0 := alloc_one w (.cells #[.int .i64 0, .string ⟨#[]⟩, .int .i64 0, .int .i64 0] 56)
  have K0 := Blk.new w 56 #[.int .i64 0, .string ⟨#[]⟩, .int .i64 0, .int .i64 0]
  have H0 := h.below b0
  have TK := rtake_any H0 k y
  have M0 := Mv.of_new b0 (fun q => q = g)
  have hlt := h.tok.lt
  have hl := h.tok.len
  unfold needX
  cases hi : Ed.isS ts s k y
  · rw [need_no hi]
    rw [hi, take_no hi] at TK
    replace TK := Lib.hid TK
    simp only [Bool.false_eq_true, if_false]
    by_cases he : s.err = 0
    · have e1 : (s.err != 0) = false := by rw [he]; rfl
      clear h H0 hi
      go_enter Tryz.func56, Tryz.ntmps56
      go_wp2_with fail
      refine (TK.out).mono ?_
      rintro e w1 ⟨rfl, m1, H1⟩
      have F1 := H1.blk.four
      rw [e1] at F1
      have K1 := K0.mv m1 (by omega)
      have M1 := M0.trans m1 fun _ _ e => e
      have H2 := H1.fail he 12 (by decide)
      have M2 : Mv (fun q => q = g) w ((w1.setCell ⟨g, 2, none⟩ (.bool true)).setCell ⟨g, 3, none⟩ (.int .i64 12)) := (M1.trans (Mv.setCell _ ⟨g, 2, none⟩ _) fun _ _ e => e).trans (Mv.setCell _ ⟨g, 3, none⟩ _) fun _ _ e => e
      have K2 : Blk ((w1.setCell ⟨g, 2, none⟩ (.bool true)).setCell ⟨g, 3, none⟩ (.int .i64 12)) w.heap.size 56 #[.int .i64 0, .string ⟨#[]⟩, .int .i64 0, .int .i64 0] := (K1.mv (Mv.setCell _ ⟨g, 2, none⟩ _) (by show ¬ w.heap.size = g; omega)).mv (Mv.setCell _ ⟨g, 3, none⟩ _) (by show ¬ w.heap.size = g; omega)
      have G2 := (H1.blk.set_ 2 (.bool true)).four
      have F2 := K2.four
      have R3 := (K2.store4 (.int .i64 0) (.string ⟨#[]⟩) (.int .i64 0) (.int .i64 0)).four
      have H3 := Lib.hid (H2.mv (mv_set4 _ w.heap.size (.int .i64 0) (.string ⟨#[]⟩) (.int .i64 0) (.int .i64 0)) fun q e => by omega)
      have M3 := Lib.hid (M2.onto (Nat.le_refl _) (mv_set4 _ w.heap.size (.int .i64 0) (.string ⟨#[]⟩) (.int .i64 0) (.int .i64 0)))
      clear TK K0 K1 K2 H1 H2 M0 M1 M2 m1 b0
      go_wp2_with fail
      exact bodyPost_ret (v := tkW Lx.tk0) (by simp [results, Tryz.results56, go_sem, R3, tkW, Lx.tk0]; rfl) rfl ⟨rfl, M3.out, H3.out⟩
    · have e1 : (s.err != 0) = true := by simpa using he
      clear h H0 hi
      go_enter Tryz.func56, Tryz.ntmps56
      go_wp2_with fail
      refine (TK.out).mono ?_
      rintro e w1 ⟨rfl, m1, H1⟩
      have F1 := H1.blk.four
      rw [e1] at F1
      have K1 := K0.mv m1 (by omega)
      have M1 := M0.trans m1 fun _ _ e => e
      have H2 := H1.failn he 12
      have F2 := K1.four
      have R3 := (K1.store4 (.int .i64 0) (.string ⟨#[]⟩) (.int .i64 0) (.int .i64 0)).four
      have H3 := Lib.hid (H2.mv (mv_set4 _ w.heap.size (.int .i64 0) (.string ⟨#[]⟩) (.int .i64 0) (.int .i64 0)) fun q e => by omega)
      have M3 := Lib.hid (M1.onto (Nat.le_refl _) (mv_set4 _ w.heap.size (.int .i64 0) (.string ⟨#[]⟩) (.int .i64 0) (.int .i64 0)))
      clear TK K0 K1 H1 H2 M0 M1 m1 b0 he
      go_wp2_with fail
      exact bodyPost_ret (v := tkW Lx.tk0) (by simp [results, Tryz.results56, go_sem, R3, tkW, Lx.tk0]; rfl) rfl ⟨rfl, M3.out, H3.out⟩
  · rw [need_yes hi]
    rw [hi, take_yes hi] at TK
    obtain ⟨hp, he⟩ := Ed.is_lt hi
    replace TK := Lib.hid TK
    simp only [if_true]
    obtain ⟨tk, tt, tn, tp, ht⟩ : ∃ a b c d, ts.getD s.pos tkz = ⟨a, b, c, d⟩ := ⟨_, _, _, _, rfl⟩
    rw [show ts.getD s.pos Lx.tk0 = ts.getD s.pos tkz from rfl, ht]
    have HT := Lib.hid ht
    clear h H0 hi ht
    go_enter Tryz.func56, Tryz.ntmps56
    go_wp2_with fail
    refine (TK.out).mono ?_
    rintro e w1 ⟨rfl, m1, H1⟩
    have F1 := H1.blk.four
    have K1 := K0.mv m1 (by omega)
    have M1 := M0.trans m1 fun _ _ e => e
    obtain ⟨b, o, rfl, hb, q0, q1, q2, q3⟩ := H1.tok.at_ (i := s.pos) (by omega)
    rw [HT.out] at q0 q1 q2 q3
    dsimp only at q0 q1 q2 q3
    have i1 : IntKind.i64.wrap (s.pos : Int) = (s.pos : Int) := IntWalk.i64_in _ (by omega)
    have i3 : (0 : Int) ≤ (s.pos : Int) := by omega
    have i2 : (s.pos : Int) < (n : Int) := by omega
    have hs1 : ((Ed.stepS s).pos : Int) = (s.pos : Int) + 1 := rfl
    rw [hs1] at F1
    have F3 := K1.four
    have R3 := ((K1.store4 (.int .i64 tk) (.string (T tt)) (.int .i64 tn) (.int .i64 (tp : Int))).drew).four
    have H3 := Lib.hid ((H1.mv (mv_set4 w1 w.heap.size (.int .i64 tk) (.string (T tt)) (.int .i64 tn) (.int .i64 (tp : Int))) fun q e => by omega).below (below_drew _))
    have M3 := Lib.hid ((M1.onto (Nat.le_refl _) (mv_set4 w1 w.heap.size (.int .i64 tk) (.string (T tt)) (.int .i64 tn) (.int .i64 (tp : Int)))).drew)
    clear TK K0 K1 H1 M0 M1 m1 b0
    go_wp2_with fail
    go_still_tail 11, (by kernel_rfl)
    change wpList _ _ _ _ _ w1.drew
    go_wp2_with fail
    exact bodyPost_ret (v := tkW ⟨tk, tt, tn, tp⟩) (by simp [results, Tryz.results56, go_sem, R3, tkW]) rfl ⟨rfl, M3.out, H3.out⟩
end
end Go.Proofs.YtmolmpgampmolaaGreat
