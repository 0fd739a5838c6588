/-
  Walks: a queue in memory; its methods.
  Conditions: none.
-/
import Derived.Test.YtmhcobhpdlpoeaaTxq
namespace Go.Proofs.Ytmhcobhpdlpoeaa
set_option linter.unusedVariables false
set_option linter.unusedSimpArgs false
open Go.RowKit
/-- A queue, all that it has in blocks of F. -/
def QR (w : World) (F : Nat → Prop) (g : Nat) (room : Int) (fs : List Can.Fr) (lost : Int) (sp : Bool) : Prop :=
  F g ∧ ∃ A c, Blk w g 56 #[.int .i64 room, .slice A fs.length c, .int .i64 lost, .bool sp] ∧ RFp w (fun b => F b ∧ b ≠ g) A fs.length c fs
section
variable {F G : Nat → Prop} {w w' : World} {g : Nat} {room lost : Int} {fs : List Can.Fr} {sp : Bool}
theorem QR.mono (h : QR w F g room fs lost sp) (hi : ∀ b, b < w.heap.size → F b → G b) : QR w G g room fs lost sp := by
  obtain ⟨h1, A, c, h2, h3⟩ := h
  exact ⟨hi g h2.lt h1, A, c, h2, h3.mono fun b hb hf => ⟨hi b hb hf.1, hf.2⟩⟩
theorem QR.mv (h : QR w F g room fs lost sp) (hm : Mv G w w') (hd : ∀ b, b < w.heap.size → F b → ¬ G b) : QR w' F g room fs lost sp := by
  obtain ⟨h1, A, c, h2, h3⟩ := h
  exact ⟨h1, A, c, h2.mv hm (hd g h2.lt h1), h3.mv hm fun b hb hf => hd b hb hf.1⟩
theorem QR.below (h : QR w F g room fs lost sp) (hb : Below w.heap.size w w') : QR w' F g room fs lost sp := h.mv (Mv.of_new hb fun _ => False) fun _ _ _ h => h
end
theorem Put_nil {f : Value} (i : Int) (r : Bool) (A : Option Addr) (n c : Nat) (w : World) : Calls Try.prog 9 #[.pointer none, .agg #[.int .i64 i, .bool r, .slice A n c]] w fun e w' => e = .returned (.int .i64 17) ∧ Below w.heap.size w w' := by
  go_enter Try.func9, Try.ntmps9
  go_wp2_with fail
  go_ret
  exact ⟨rfl, alloc_one _ _⟩
theorem Put_zero {g : Nat} {x y z : Value} (i : Int) (r : Bool) (A : Option Addr) (n c : Nat) (w : World) (hg : Blk w g 56 #[.int .i64 0, x, y, z]) : Calls Try.prog 9 #[.pointer (some ⟨g, 0, none⟩), .agg #[.int .i64 i, .bool r, .slice A n c]] w fun e w' => e = .returned (.int .i64 17) ∧ Below w.heap.size w w' := by
  have F0 := hg.four
  have hlt := hg.lt
  go_enter Try.func9, Try.ntmps9
  go_wp2_with fail
  go_ret
  exact ⟨rfl, alloc_one _ _⟩
section
variable {F : Nat → Prop} {g : Nat} {room lost : Int} {fs : List Can.Fr} {sp : Bool} {i : Int} {r : Bool} {A : Option Addr} {n c B : Nat} {l : List UInt8}
set_option maxRecDepth 100000 in
set_option maxHeartbeats 2000000 in
theorem Put_bad (w : World) (hq : QR w F g room fs lost sp) (hr : 1 ≤ room) (h : RB w B A n c l) (hc : Can.check ⟨i, r, l⟩ ≠ 0) :
    Calls Try.prog 9 #[.pointer (some ⟨g, 0, none⟩), .agg #[.int .i64 i, .bool r, .slice A n c]] w fun e w' => e = .returned (.int .i64 (Can.check ⟨i, r, l⟩)) ∧ Below w.heap.size w w' := by
  obtain ⟨hF, Aq, cq, hg, hfs⟩ := hq
  obtain rfl : l.length = n := h.len
  have c1 := fun w => Check_any i r (A := A) (n := l.length) (c := c) w h.lt
  change ∀ (w : World), Calls _ _ _ w fun e w' => e = .returned (.int .i64 (Can.check ⟨i, r, l⟩)) ∧ _ at c1
  have hne : (Can.check ⟨i, r, l⟩ != 0) = true := by simpa using hc
  generalize Can.check ⟨i, r, l⟩ = v at *
  have C1 := Lib.hid c1; clear c1
  have F0 := hg.four
  have hlt := hg.lt
  have hz : (room == 0) = false := by rw [beq_eq_false_iff_ne]; omega
  go_enter Try.func9, Try.ntmps9
  go_wp2_with fail
  refine (C1.out _).mono ?_
  rintro e w1 ⟨rfl, b1⟩
  go_wp2_with fail
  go_ret
  exact ⟨rfl, below_step (alloc_one _ _) b1 (Nat.le_refl _)⟩
set_option maxRecDepth 100000 in
set_option maxHeartbeats 2000000 in
theorem Put_full (w : World) (hq : QR w F g room fs lost sp) (hr : 1 ≤ room) (h : RB w B A n c l) (hc : Can.check ⟨i, r, l⟩ = 0) (hroom : (fs.length : Int) = room) (hl1 : 0 ≤ lost) (hl2 : lost < 4611686018427387904) :
    Calls Try.prog 9 #[.pointer (some ⟨g, 0, none⟩), .agg #[.int .i64 i, .bool r, .slice A n c]] w fun e w' => e = .returned (.int .i64 6) ∧ QR w' F g room fs (lost + 1) true ∧ Mv (fun b => b = g) w w' := by
  obtain ⟨hF, Aq, cq, hg, hfs⟩ := hq
  obtain rfl : l.length = n := h.len
  have c1 := fun w => Check_any i r (A := A) (n := l.length) (c := c) w h.lt
  change ∀ (w : World), Calls _ _ _ w fun e w' => e = .returned (.int .i64 (Can.check ⟨i, r, l⟩)) ∧ _ at c1
  rw [hc] at c1
  have C1 := Lib.hid c1; clear c1 hc
  have F0 := hg.four
  have hlt := hg.lt
  have hz : (room == 0) = false := by rw [beq_eq_false_iff_ne]; omega
  have hfn := hfs.rf.lt
  generalize hm : fs.length = m at *
  subst hroom
  have HM := Lib.hid hm; clear hm
  go_enter Try.func9, Try.ntmps9
  go_wp2_with fail
  refine (C1.out _).mono ?_
  rintro e w1 ⟨rfl, b1⟩
  have d1 := below_step (alloc_one w _) b1 (Nat.le_refl _)
  have K := hg.later d1
  have F1 := K.four
  have G1 := K.four4
  clear F0
  have hmm : ((m : Int) == (m : Int)) = true := by simp
  go_wp2_with fail
  refine region_later (by kernel_rfl) ?_
  refine phase_later (by kernel_rfl) 0 (below_drew _) [0, 5, 1, 6, 2, 7, 3, 8, 4, 9] rfl (by kernel_rfl) ?_
  simp only [picks, nth]
  repeat (go_big_quiet_step (fail))
  refine wpQuiet_nil ?_
  refine phase_end (by kernel_rfl) ?_
  go_wp2_with fail
  go_ret
  have M : Mv (fun b => b = g) w (((w1.setCell ⟨g, 2, none⟩ (.int .i64 (lost + 1))).setCell ⟨g, 3, none⟩ (.bool true)).drew) :=
    (((Mv.of_new d1 _).trans (Mv.setCell w1 ⟨g, 2, none⟩ _) fun b _ h => h).trans (Mv.setCell _ ⟨g, 3, none⟩ _) fun b _ h => h).drew
  refine ⟨rfl, ⟨hF, Aq, cq, ?_, ?_⟩, M⟩
  · rw [HM.out]
    exact ((K.set_ 2 (.int .i64 (lost + 1))).set_ 3 (.bool true)).drew
  · rw [HM.out]
    exact hfs.mv M fun b _ hf => hf.2
set_option maxRecDepth 100000 in
set_option maxHeartbeats 4000000 in
theorem Put_in (w : World) (hq : QR w F g room fs lost sp) (hr : 1 ≤ room) (hr2 : room ≤ 64) (h : RB w B A n c l) (hB : B ≤ w.heap.size) (hc : Can.check ⟨i, r, l⟩ = 0) (hroom : (fs.length : Int) < room) :
    Calls Try.prog 9 #[.pointer (some ⟨g, 0, none⟩), .agg #[.int .i64 i, .bool r, .slice A n c]] w fun e w' => e = .returned (.int .i64 0) ∧ QR w' (fun b => F b ∨ w.heap.size ≤ b) g room (Can.insS ⟨i, r, l⟩ fs) lost sp ∧ Mv (fun b => b = g) w w' := by
  obtain ⟨hF, Aq, cq, hg, hfs⟩ := hq
  obtain rfl : l.length = n := h.len
  have c1 := fun w => Check_any i r (A := A) (n := l.length) (c := c) w h.lt
  change ∀ (w : World), Calls _ _ _ w fun e w' => e = .returned (.int .i64 (Can.check ⟨i, r, l⟩)) ∧ _ at c1
  rw [hc] at c1
  have hlen : l.length ≤ 8 := (Can.checkN_lt hc).2.2.1
  have C1 := Lib.hid c1; clear c1 hc
  have F0 := hg.four
  have hlt := hg.lt
  have hz : (room == 0) = false := by rw [beq_eq_false_iff_ne]; omega
  have hle := Can.upS_le ⟨i, r, l⟩ fs
  have hfn := hfs.rf.lt
  obtain ⟨hcap, hcap2⟩ : fs.length ≤ cq ∧ cq ≤ 9223372036854775807 := by obtain ⟨xs, h1, _⟩ := hfs; exact ⟨h1.le, h1.cap⟩
  generalize hm : fs.length = m at *
  have HM := Lib.hid hm; clear hm
  go_enter Try.func9, Try.ntmps9
  go_wp2_with fail
  refine (C1.out _).mono ?_
  rintro e w1 ⟨rfl, b1⟩
  have Kf := Blk.made b1
  have d1 := below_step (alloc_one w _) b1 (Nat.le_refl _)
  have K := hg.later d1
  have F1 := K.four
  have G1 := K.four4
  clear F0
  have hmm : ((m : Int) == room) = false := by rw [beq_eq_false_iff_ne]; omega
  go_wp2_with fail
  refine region_later (by kernel_rfl) ?_
  refine phase_later (by kernel_rfl) 0 (below_drew _) [0, 5, 1, 6, 2, 7, 3, 8, 4, 9] rfl (by kernel_rfl) ?_
  simp only [picks, nth]
  repeat (go_big_quiet_step (fail))
  refine wpQuiet_nil ?_
  refine phase_end (by kernel_rfl) ?_
  go_wp2_with fail
  refine (upper_any i r A l.length c l _ _ (hfs.below (d1.drew)).rf (Nat.le_refl _) Kf.drew).mono ?_
  rintro e w2 ⟨rfl, b2⟩
  have K2 := (K.drew).later b2
  have Kf2 := (Kf.drew).later b2
  have d2 := below_step d1.drew b2 (Nat.le_refl _)
  clear F1 G1
  have F2 := K2.four
  have G2 := K2.four4
  have E2 := Kf2.three3
  have hr2 := h.below (d2.mono hB)
  have hfs2 := hfs.below d2
  generalize hk : Can.upS ⟨i, r, l⟩ fs = k at *
  have HK := Lib.hid hk; clear hk
  have hcut := fun w => run_cut_rest etf Aq m cq k hle .i64 w
  have hful := fun w => run_cut_full etf Aq m cq k (by omega) .i64 .i64 w
  have htail := hfs2.drop hle
  generalize (if cq = k then Aq else Aq.map (·.add (k * 3))) = At at *
  go_wp2_with fail
  refine region_laterL 16 (by kernel_rfl) ?_
  refine phase_laterL (by kernel_rfl) 7 (below_drew _) [0, 1, 5, 6, 8, 12, 2, 3, 4, 7] rfl (by kernel_rfl) ?_
  simp only [picks, nth]
  repeat (go_big_quiet_step (fail))
  refine wpQuiet_nil ?_
  refine phase_opL 9 6 rfl (by kernel_rfl) (by decide) ?_
  simp only [nth]
  go_wp2_with fail
  refine (own_any i r _ hr2.drew (Nat.le_trans hB d2.size) (by omega)).mono ?_
  rintro e w3 ⟨A3, c3, rfl, o3, b3⟩
  have b3' := below_step (below_drew w2) b3 (Nat.le_refl _)
  go_wp2_with fail
  refine behind_laterL b3' ?_
  refine phase_opL 10 5 rfl (by kernel_rfl) (by decide) ?_
  simp only [nth]
  go_wp2_with fail
  have hcells := frame_oneCell ⟨i, r, l⟩ A3 l.length c3
  have hnew := (OV.new (base := w3.heap.size) (e := 29) (size := 3) w3 [.int .i64 i, .bool r, .slice A3 l.length c3] 1 rfl (by omega) (Nat.le_refl _)).rv
  have b4 := alloc_one w3 (.cells #[.int .i64 i, .bool r, .slice A3 l.length c3] 29)
  have o4 := o3.alloc (.cells #[.int .i64 i, .bool r, .slice A3 l.length c3] 29)
  have D24 := below_step b3' b4 (Nat.le_refl _)
  change RV (w3.alloc (.cells #[.int .i64 i, .bool r, .slice A3 l.length c3] 29)) _ _ _ _ _ _ at hnew
  refine behind_laterL b4 ?_
  generalize hw4 : w3.alloc (.cells #[.int .i64 i, .bool r, .slice A3 l.length c3] 29) = w4 at *
  have HW4 := Lib.hid hw4; clear hw4
  obtain ⟨xs, hxs2, hrows2⟩ := hfs2
  obtain ⟨ys, hys2, hrowy2⟩ := htail
  have hx4 := (hxs2.below D24).take hle (c' := k) (by omega) (Nat.le_refl _)
  have K4 := K2.later D24
  have G4 := K4.four4
  refine phase_opL 11 4 rfl (by kernel_rfl) (by decide) ?_
  simp only [nth]
  go_wp2_with (at_builtin; refine wpList_app_full etf rfl (.tmp 61) (.tmp 64) rfl rfl rfl hx4.rv hnew (by omega) hcells (by omega) (by omega) ?_; intro A5 c5 w5 o5 b5)
  refine behind_sinceL b5 ?_
  have hy5 := (hys2.below D24).below b5
  refine phase_opL 13 3 rfl (by kernel_rfl) (by decide) ?_
  simp only [nth]
  go_wp2_with (at_builtin; refine wpList_app etf rfl (.tmp 65) (.tmp 66) rfl rfl rfl w4.heap.size o5 hy5.rv (frow_oneCell hrowy2) (by omega) (by omega) b5.size ?_; intro A6 c6 w6 o6 g6 _)
  have b6 := b5.trans (grown_below g6 o5.lt b5.size)
  refine behind_sinceL b6 ?_
  refine phase_opL 14 2 rfl (by kernel_rfl) (by decide) ?_
  simp only [nth]
  go_wp2_with fail
  refine behind_sinceL b6 ?_
  refine phase_opL 15 1 rfl (by kernel_rfl) (by decide) ?_
  simp only [nth]
  go_wp2_with fail
  refine behind_sinceL b6 ?_
  have K6 := K4.later b6
  have F6 := K6.four
  refine phase_last 0 rfl (by kernel_rfl) (by decide) (by kernel_rfl) ?_
  simp only [nth]
  go_wp2_with fail
  refine behind_last ?_
  go_wp2_with fail
  go_ret
  have hm' : (Can.insS ⟨i, r, l⟩ fs).length = m + 1 := by rw [Can.insS_length, HM.out]
  have D26 := D24.trans (b6.mono D24.size)
  have M6 : Mv (fun b => b = g) w w6 := Mv.of_new (d2.trans (D26.mono d2.size)) _
  have M7 : Mv (fun b => b = g) w (w6.setCell ⟨g, 1, none⟩ (.slice A6 (k + 1 + (m - k)) c6)) := M6.trans (Mv.setCell w6 ⟨g, 1, none⟩ _) fun b _ h => h
  have hz2 := d2.size
  have hz3 := b3'.size
  have hz4 := b4.size
  have hnn : k + 1 + (m - k) = m + 1 := by omega
  refine ⟨rfl, ⟨.inl hF, A6, c6, ?_, ?_⟩, M7⟩
  · rw [hm', ← hnn]
    exact K6.set_ 1 (.slice A6 (k + 1 + (m - k)) c6)
  · rw [hm', ← hnn]
    have sep : ∀ b, b < w6.heap.size → ((F b ∨ w.heap.size ≤ b) ∧ b ≠ g) → ¬ b = g := fun _ _ h => h.2
    have up : ∀ b, (F b ∧ b ≠ g) → ((F b ∨ w.heap.size ≤ b) ∧ b ≠ g) := fun _ h => ⟨.inl h.1, h.2⟩
    have row : RVp w6 (fun b => (F b ∨ w.heap.size ≤ b) ∧ b ≠ g) 3 A6 (k + 1 + (m - k)) c6 (xs.take (k * 3) ++ [.int .i64 i, .bool r, .slice A3 l.length c3] ++ ys) :=
      o6.rvp fun q hq => by have := o6.lt q hq; exact ⟨.inr (by omega), by omega⟩
    have elems : Rows (FrP w6 (fun b => (F b ∨ w.heap.size ≤ b) ∧ b ≠ g)) 3 (Can.insS ⟨i, r, l⟩ fs) (xs.take (k * 3) ++ [.int .i64 i, .bool r, .slice A3 l.length c3] ++ ys) := by
      unfold Can.insS
      rw [HK.out, List.append_cons]
      refine Rows.append (Rows.append ((hrows2.take k (by rw [HM.out]; exact hle)).imp fun f cs hf => (hf.below D26).mono fun b _ h => up b h) (Rows.one ?_ rfl)) (hrowy2.imp fun f cs hf => (hf.below D26).mono fun b _ h => up b h)
      refine ⟨A3, l.length, c3, rfl, ?_⟩
      exact (o4.rbp fun q hq => by have := o4.lt q hq; exact ⟨.inr (by have := this.1; simp at this; omega), by have := this.1; simp at this; omega⟩).below b6
    exact ⟨_, row.mv (Mv.setCell w6 ⟨g, 1, none⟩ _) sep, elems.imp fun f cs hf => hf.mv (Mv.setCell w6 ⟨g, 1, none⟩ _) sep⟩
end
end Go.Proofs.Ytmhcobhpdlpoeaa
