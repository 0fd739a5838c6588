/-
  Walks: the reference's queue.
  Conditions: none.
-/
import Derived.Test.YtmhcobhpdlpoeaaTxq
namespace Go.Proofs.Ytmhcobhpdlpoeaa
set_option linter.unusedVariables false
set_option linter.unusedSimpArgs false
open Go.RowKit
/-- The reference's queue, all that it has in blocks of F. -/
def RQ (w : World) (F : Nat → Prop) (g : Nat) (room : Int) (fs : List Can.Fr) (lost : Int) (sp : Bool) : Prop :=
  F g ∧ ∃ A c, Blk w g 50 #[.int .i64 room, .slice A fs.length c, .int .i64 lost, .bool sp] ∧ OFp w (fun b => F b ∧ b ≠ g) A fs.length c fs
section
variable {F G : Nat → Prop} {w w' : World} {g : Nat} {room lost : Int} {fs : List Can.Fr} {sp : Bool}
theorem RQ.mono (h : RQ w F g room fs lost sp) (hi : ∀ b, b < w.heap.size → F b → G b) : RQ w G g room fs lost sp := by
  obtain ⟨h1, A, c, h2, h3⟩ := h
  exact ⟨hi g h2.lt h1, A, c, h2, h3.mono fun b hb hf => ⟨hi b hb hf.1, hf.2⟩⟩
theorem RQ.mv (h : RQ w F g room fs lost sp) (hm : Mv G w w') (hd : ∀ b, b < w.heap.size → F b → ¬ G b) : RQ w' F g room fs lost sp := by
  obtain ⟨h1, A, c, h2, h3⟩ := h
  exact ⟨h1, A, c, h2.mv hm (hd g h2.lt h1), h3.mv hm fun b hb hf => hd b hb hf.1⟩
theorem RQ.below (h : RQ w F g room fs lost sp) (hb : Below w.heap.size w w') : RQ w' F g room fs lost sp := h.mv (Mv.of_new hb fun _ => False) fun _ _ _ h => h
end
theorem RNew_bad (room : Int) (w : World) (h : ¬ (1 ≤ room ∧ room ≤ 64)) : Calls Try.prog 17 #[.int .i64 room] w fun e w' => e = .returned (.tuple #[.pointer (some ⟨w.heap.size, 0, none⟩), .int .i64 1]) ∧ Below w.heap.size w w' := by
  by_cases h1 : room < 1
  · clear h
    go_enter Try.func17, Try.ntmps17
    go_wp2_with fail
    go_ret2
    exact ⟨rfl, alloc_one _ _⟩
  · have h2 : 64 < room := by omega
    clear h
    go_enter Try.func17, Try.ntmps17
    go_wp2_with fail
    go_ret2
    exact ⟨rfl, alloc_one _ _⟩
theorem RNew_ok (room : Int) (w : World) (h1 : 1 ≤ room) (h2 : room ≤ 64) : Calls Try.prog 17 #[.int .i64 room] w fun e w' => e = .returned (.tuple #[.pointer (some ⟨w.heap.size, 0, none⟩), .int .i64 0]) ∧
    w' = w.alloc (.cells #[.int .i64 room, .slice none 0 0, .int .i64 0, .bool false] 50) := by
  go_enter Try.func17, Try.ntmps17
  go_wp2_with fail
  go_ret2
  exact ⟨rfl, rfl⟩
section
variable {F : Nat → Prop} {g : Nat} {room lost : Int} {fs : List Can.Fr} {sp : Bool} {i : Int} {r : Bool} {A : Option Addr} {n c B : Nat} {l : List UInt8}
theorem RSpilt_any (w : World) (hq : RQ w F g room fs lost sp) : Calls Try.prog 24 #[.pointer (some ⟨g, 0, none⟩)] w fun e w' => e = .returned (.bool sp) ∧ RQ w' F g room fs lost false ∧ Mv (fun b => b = g) w w' := by
  obtain ⟨hF, Aq, cq, hg, hfs⟩ := hq
  have F0 := hg.four
  go_enter Try.func24, Try.ntmps24
  go_wp2_with fail
  go_ret
  exact ⟨rfl, ⟨hF, Aq, cq, hg.set_ 3 (.bool false), hfs.mv (Mv.setCell w ⟨g, 3, none⟩ _) fun b _ h => h.2⟩, Mv.setCell w ⟨g, 3, none⟩ _⟩
set_option maxRecDepth 100000 in
set_option maxHeartbeats 2000000 in
theorem RPut_bad (w : World) (h : RB w B A n c l) (hc : Can.check ⟨i, r, l⟩ ≠ 0) :
    Calls Try.prog 19 #[.pointer (some ⟨g, 0, none⟩), .agg #[.int .i64 i, .bool r, .slice A n c]] w fun e w' => e = .returned (.int .i64 (Can.check ⟨i, r, l⟩)) ∧ Below w.heap.size w w' := by
  obtain rfl : l.length = n := h.len
  have c1 := fun w => RCheck_any i r (A := A) (n := l.length) (c := c) w h.lt
  change ∀ (w : World), Calls _ _ _ w fun e w' => e = .returned (.int .i64 (Can.check ⟨i, r, l⟩)) ∧ _ at c1
  have hne : (Can.check ⟨i, r, l⟩ != 0) = true := by simpa using hc
  generalize Can.check ⟨i, r, l⟩ = v at *
  have C1 := Lib.hid c1; clear c1
  go_enter Try.func19, Try.ntmps19
  go_wp2_with fail
  refine (C1.out _).mono ?_
  rintro e w1 ⟨rfl, b1⟩
  go_wp2_with fail
  go_ret
  exact ⟨rfl, below_step (alloc_one _ _) b1 (Nat.le_refl _)⟩
set_option maxRecDepth 100000 in
set_option maxHeartbeats 2000000 in
theorem RPut_full (w : World) (hq : RQ w F g room fs lost sp) (h : RB w B A n c l) (hc : Can.check ⟨i, r, l⟩ = 0) (hroom : (fs.length : Int) = room) (hl1 : 0 ≤ lost) (hl2 : lost < 4611686018427387904) :
    Calls Try.prog 19 #[.pointer (some ⟨g, 0, none⟩), .agg #[.int .i64 i, .bool r, .slice A n c]] w fun e w' => e = .returned (.int .i64 6) ∧ RQ w' F g room fs (lost + 1) true ∧ Mv (fun b => b = g) w w' := by
  obtain ⟨hF, Aq, cq, hg, hfs⟩ := hq
  obtain rfl : l.length = n := h.len
  have c1 := fun w => RCheck_any i r (A := A) (n := l.length) (c := c) w h.lt
  change ∀ (w : World), Calls _ _ _ w fun e w' => e = .returned (.int .i64 (Can.check ⟨i, r, l⟩)) ∧ _ at c1
  rw [hc] at c1
  have C1 := Lib.hid c1; clear c1 hc
  have F0 := hg.four
  have hlt := hg.lt
  have hfn := hfs.rfp.rf.lt
  generalize hm : fs.length = m at *
  subst hroom
  have HM := Lib.hid hm; clear hm
  go_enter Try.func19, Try.ntmps19
  go_wp2_with fail
  refine (C1.out _).mono ?_
  rintro e w1 ⟨rfl, b1⟩
  have d1 := below_step (alloc_one w _) b1 (Nat.le_refl _)
  have K := hg.later d1
  have F1 := K.four
  have G1 := K.four4
  clear F0
  have hmm : ((m : Int) == (m : Int)) = true := by simp
  go_wp2_with fail
  refine region_later (by kernel_rfl) ?_
  refine phase_later (by kernel_rfl) 0 (below_drew _) [0, 5, 1, 6, 2, 7, 3, 8, 4, 9] rfl (by kernel_rfl) ?_
  simp only [picks, nth]
  repeat (go_big_quiet_step (fail))
  refine wpQuiet_nil ?_
  refine phase_end (by kernel_rfl) ?_
  go_wp2_with fail
  go_ret
  have M : Mv (fun b => b = g) w (((w1.setCell ⟨g, 2, none⟩ (.int .i64 (lost + 1))).setCell ⟨g, 3, none⟩ (.bool true)).drew) :=
    (((Mv.of_new d1 _).trans (Mv.setCell w1 ⟨g, 2, none⟩ _) fun b _ h => h).trans (Mv.setCell _ ⟨g, 3, none⟩ _) fun b _ h => h).drew
  refine ⟨rfl, ⟨hF, Aq, cq, ?_, ?_⟩, M⟩
  · rw [HM.out]
    exact ((K.set_ 2 (.int .i64 (lost + 1))).set_ 3 (.bool true)).drew
  · rw [HM.out]
    exact hfs.mv M fun b _ hf => hf.2
set_option maxRecDepth 100000 in
set_option maxHeartbeats 4000000 in
theorem RPut_in (w : World) (hq : RQ w F g room fs lost sp) (hr2 : room ≤ 64) (h : RB w B A n c l) (hB : B ≤ w.heap.size) (hc : Can.check ⟨i, r, l⟩ = 0) (hroom : (fs.length : Int) < room) :
    Calls Try.prog 19 #[.pointer (some ⟨g, 0, none⟩), .agg #[.int .i64 i, .bool r, .slice A n c]] w fun e w' => e = .returned (.int .i64 0) ∧ RQ w' (fun b => F b ∨ w.heap.size ≤ b) g room (fs ++ [⟨i, r, l⟩]) lost sp ∧ Mv F w w' := by
  obtain ⟨hF, Aq, cq, hg, hfs⟩ := hq
  obtain rfl : l.length = n := h.len
  have c1 := fun w => RCheck_any i r (A := A) (n := l.length) (c := c) w h.lt
  change ∀ (w : World), Calls _ _ _ w fun e w' => e = .returned (.int .i64 (Can.check ⟨i, r, l⟩)) ∧ _ at c1
  rw [hc] at c1
  have hlen : l.length ≤ 8 := (Can.checkN_lt hc).2.2.1
  have C1 := Lib.hid c1; clear c1 hc
  have F0 := hg.four
  have hlt := hg.lt
  have hfn := hfs.rfp.rf.lt
  generalize hm : fs.length = m at *
  have HM := Lib.hid hm; clear hm
  go_enter Try.func19, Try.ntmps19
  go_wp2_with fail
  refine (C1.out _).mono ?_
  rintro e w1 ⟨rfl, b1⟩
  have Kf := Blk.made b1
  have d1 := below_step (alloc_one w _) b1 (Nat.le_refl _)
  have K := hg.later d1
  have F1 := K.four
  have G1 := K.four4
  clear F0
  have hmm : ((m : Int) == room) = false := by rw [beq_eq_false_iff_ne]; omega
  go_wp2_with fail
  refine region_later (by kernel_rfl) ?_
  refine phase_later (by kernel_rfl) 0 (below_drew _) [0, 5, 1, 6, 2, 7, 3, 8, 4, 9] rfl (by kernel_rfl) ?_
  simp only [picks, nth]
  repeat (go_big_quiet_step (fail))
  refine wpQuiet_nil ?_
  refine phase_end (by kernel_rfl) ?_
  go_wp2_with fail
  have K2 := K.drew
  have d2 : Below w.heap.size w w1.drew := d1.drew
  have Kf2 := Kf.drew
  have hfs2 := hfs.below d2
  have hr2' := h.below (d2.mono hB)
  generalize hw2 : w1.drew = w2 at *
  have HW2 := Lib.hid hw2; clear hw2
  obtain ⟨xs, hx1, hx2, hx3⟩ := hfs2
  obtain ⟨Gr, hGr⟩ : ∃ G : Nat → Prop, ∀ b, G b ↔ some b = (Value.slice Aq m cq).ownBlock := ⟨fun b => some b = (Value.slice Aq m cq).ownBlock, fun _ => Iff.rfl⟩
  have G2 := K2.four_mv (G := Gr) fun e => (hx2 g ((hGr g).1 e).symm).2 rfl
  have E2 := Kf2.three_mv (G := Gr) fun e => by
    obtain ⟨_, hy1, _, _⟩ := hfs
    have := (hy1.lt _ ((hGr _).1 e).symm).2
    omega
  have HGR := Lib.hid hGr; clear hGr
  refine region_mv 11 Gr (by kernel_rfl) ?_
  refine phase_mv (by kernel_rfl) 6 (Mv.refl _ _).drew [0, 1, 5, 2, 3, 4] rfl (by kernel_rfl) ?_
  simp only [picks, nth]
  repeat (go_big_quiet_step (fail))
  refine wpQuiet_nil ?_
  refine phase_opL 6 5 rfl (by kernel_rfl) (by decide) ?_
  simp only [nth]
  go_wp2_with fail
  refine (RLent_any i r _ hr2'.drew (Nat.le_trans hB d2.size) (by omega)).mono ?_
  rintro e w3 ⟨A3, c3, rfl, o3, b3⟩
  have b3' := below_step (below_drew w2) b3 (Nat.le_refl _)
  go_wp2_with fail
  refine behind_mv (Mv.of_new b3' _) ?_
  refine phase_opL 7 4 rfl (by kernel_rfl) (by decide) ?_
  simp only [nth]
  go_wp2_with fail
  have hcells := frame_oneCell ⟨i, r, l⟩ A3 l.length c3
  have hnew := (OV.new (base := w3.heap.size) (e := 29) (size := 3) w3 [.int .i64 i, .bool r, .slice A3 l.length c3] 1 rfl (by omega) (Nat.le_refl _)).rv
  have b4 := alloc_one w3 (.cells #[.int .i64 i, .bool r, .slice A3 l.length c3] 29)
  have o4 := o3.alloc (.cells #[.int .i64 i, .bool r, .slice A3 l.length c3] 29)
  have D24 := below_step b3' b4 (Nat.le_refl _)
  change RV (w3.alloc (.cells #[.int .i64 i, .bool r, .slice A3 l.length c3] 29)) _ _ _ _ _ _ at hnew
  refine behind_mv (Mv.of_new D24 _) ?_
  generalize hw4 : w3.alloc (.cells #[.int .i64 i, .bool r, .slice A3 l.length c3] 29) = w4 at *
  have HW4 := Lib.hid hw4; clear hw4
  have hx4 := hx1.below D24
  refine phase_opL 8 3 rfl (by kernel_rfl) (by decide) ?_
  simp only [nth]
  go_wp2_with (at_builtin; refine wpList_app etf rfl (.tmp 36) (.tmp 39) rfl rfl rfl 0 hx4 hnew hcells (by omega) (by omega) (Nat.zero_le _) ?_; intro A5 c5 w5 o5 g5 hloc)
  have M5 : Mv Gr w2 w5 := (Mv.of_new D24 _).trans (Mv.of_grown g5) fun _ _ h => (HGR.out _).2 h
  have ngr : some g ≠ (Value.slice Aq m cq).ownBlock := fun e => (hx2 g e.symm).2 rfl
  have K5 := (K2.later D24).grown g5 ngr
  have F5 := K5.four
  refine behind_mv M5 ?_
  refine phase_opL 9 2 rfl (by kernel_rfl) (by decide) ?_
  simp only [nth]
  go_wp2_with fail
  refine behind_mv M5 ?_
  refine phase_opL 10 1 rfl (by kernel_rfl) (by decide) ?_
  simp only [nth]
  go_wp2_with fail
  refine behind_mv M5 ?_
  refine phase_last 0 rfl (by kernel_rfl) (by decide) (by kernel_rfl) ?_
  simp only [nth]
  go_wp2_with fail
  refine behind_last ?_
  go_wp2_with fail
  go_ret
  have hz2 := d2.size
  have hz3 := b3'.size
  have hz4 := b4.size
  have hz5 := g5.size
  have M : Mv F w w5 := (Mv.of_new d2 _).trans M5 fun b _ h => (hx2 b ((HGR.out b).1 h).symm).1
  have M7 : Mv F w (w5.setCell ⟨g, 1, none⟩ (.slice A5 (m + 1) c5)) := M.trans (Mv.setCell w5 ⟨g, 1, none⟩ _) fun b _ h => by subst h; exact hF
  have hm' : (fs ++ [(⟨i, r, l⟩ : Can.Fr)]).length = m + 1 := by rw [List.length_append, HM.out]; rfl
  refine ⟨rfl, ⟨.inl hF, A5, c5, ?_, ?_⟩, M7⟩
  · rw [hm']
    exact K5.set_ 1 (.slice A5 (m + 1) c5)
  · rw [hm']
    have sep : ∀ b, b < w5.heap.size → ((F b ∨ w.heap.size ≤ b) ∧ b ≠ g) → ¬ b = g := fun _ _ h => h.2
    have up : ∀ b, (F b ∧ b ≠ g) → ((F b ∨ w.heap.size ≤ b) ∧ b ≠ g) := fun _ h => ⟨.inl h.1, h.2⟩
    have own5 : ∀ k, (Value.slice A5 (m + 1) c5).ownBlock = some k → ((F k ∨ w.heap.size ≤ k) ∧ k ≠ g) := fun k hk => by
      rcases hloc with e | e
      · exact up k (hx2 k (by rw [← e]; exact hk))
      · rw [hk] at e
        injection e with e
        exact ⟨.inr (by omega), by omega⟩
    have own5' : ∀ b, b < w4.heap.size → some b ≠ (Value.slice Aq m cq).ownBlock → some b ≠ (Value.slice A5 (m + 1) c5).ownBlock := fun b hb hne e => by
      rcases hloc with e' | e'
      · exact hne (e.trans e')
      · rw [e'] at e
        injection e with e
        omega
    have M45 := Mv.of_grown g5
    have elems : Rows (FrP w5 (fun b => ((F b ∨ w.heap.size ≤ b) ∧ b ≠ g) ∧ some b ≠ (Value.slice A5 (m + 1) c5).ownBlock)) 3 (fs ++ [⟨i, r, l⟩]) (xs ++ [.int .i64 i, .bool r, .slice A3 l.length c3]) := by
      refine Rows.append (hx3.imp fun f cs hf => ?_) (Rows.one ⟨A3, l.length, c3, rfl, ?_⟩ rfl)
      · have h4 := (hf.below D24).mono (G := fun b => (((F b ∨ w.heap.size ≤ b) ∧ b ≠ g) ∧ some b ≠ (Value.slice A5 (m + 1) c5).ownBlock) ∧ some b ≠ (Value.slice Aq m cq).ownBlock) fun b hb h => ⟨⟨up b h.1, own5' b hb h.2⟩, h.2⟩
        exact (h4.mv M45 fun b _ h e => h.2 e).mono fun b _ h => h.1
      · have hlo : ∀ q, (Value.slice A3 l.length c3).ownBlock = some q → w2.heap.size ≤ q ∧ q < w3.heap.size := fun q hq => by
          have := o3.lt q hq
          simpa using this
        refine ((o4.rbp (F := fun b => w2.heap.size ≤ b ∧ b < w3.heap.size) hlo).mv M45 fun b _ h e => ?_).mono fun b _ h => ⟨⟨.inr (by omega), by omega⟩, own5' b (by omega) fun e => ?_⟩
        · have := (hx1.lt b e.symm).2; omega
        · have := (hx1.lt b e.symm).2; omega
    exact ⟨_, OV.mv o5 (Mv.setCell w5 ⟨g, 1, none⟩ _) fun k hk e => (own5 k hk).2 e, own5, elems.imp fun f cs hf => hf.mv (Mv.setCell w5 ⟨g, 1, none⟩ _) fun b hb h => sep b hb h.1⟩
end
end Go.Proofs.Ytmhcobhpdlpoeaa
