/-
  Walks: txq's Take, Len, Lost, Spilt, Clear, List, Copy.
  Conditions: none.
-/
import Derived.Test.YtmhcobhpdlpoeaaTxqPut
namespace Go.Proofs.Ytmhcobhpdlpoeaa
set_option linter.unusedVariables false
set_option linter.unusedSimpArgs false
open Go.RowKit
section
variable {F : Nat → Prop} {g : Nat} {room lost : Int} {fs : List Can.Fr} {sp : Bool}
theorem Len_nil (w : World) : Calls Try.prog 13 #[.pointer none] w fun e w' => e = .returned (.int .i64 0) ∧ w = w' := by
  go_enter Try.func13, Try.ntmps13
  go_wp2_with fail
  go_ret
  exact ⟨rfl, rfl⟩
theorem Len_any (w : World) (hq : QR w F g room fs lost sp) : Calls Try.prog 13 #[.pointer (some ⟨g, 0, none⟩)] w fun e w' => e = .returned (.int .i64 (fs.length : Int)) ∧ w = w' := by
  obtain ⟨hF, Aq, cq, hg, hfs⟩ := hq
  have F0 := hg.four
  go_enter Try.func13, Try.ntmps13
  go_wp2_with fail
  go_ret
  exact ⟨rfl, rfl⟩
theorem Lost_nil (w : World) : Calls Try.prog 16 #[.pointer none] w fun e w' => e = .returned (.int .i64 0) ∧ w = w' := by
  go_enter Try.func16, Try.ntmps16
  go_wp2_with fail
  go_ret
  exact ⟨rfl, rfl⟩
theorem Lost_any (w : World) (hq : QR w F g room fs lost sp) : Calls Try.prog 16 #[.pointer (some ⟨g, 0, none⟩)] w fun e w' => e = .returned (.int .i64 lost) ∧ w = w' := by
  obtain ⟨hF, Aq, cq, hg, hfs⟩ := hq
  have F0 := hg.four
  go_enter Try.func16, Try.ntmps16
  go_wp2_with fail
  go_ret
  exact ⟨rfl, rfl⟩
theorem Clear_nil (w : World) : Calls Try.prog 15 #[.pointer none] w fun e w' => e = .returned (.tuple #[]) ∧ w = w' := by
  go_enter Try.func15, Try.ntmps15
  go_wp2_with fail
  go_end0
  exact ⟨rfl, rfl⟩
theorem Clear_any (w : World) (hq : QR w F g room fs lost sp) : Calls Try.prog 15 #[.pointer (some ⟨g, 0, none⟩)] w fun e w' => e = .returned (.tuple #[]) ∧ QR w' F g room [] lost sp ∧ Mv (fun b => b = g) w w' := by
  obtain ⟨hF, Aq, cq, hg, hfs⟩ := hq
  have F0 := hg.four
  go_enter Try.func15, Try.ntmps15
  go_wp2_with fail
  go_end0
  exact ⟨rfl, ⟨hF, none, 0, hg.set_ 1 (.slice none 0 0), RFp.none_ _ _⟩, Mv.setCell w ⟨g, 1, none⟩ _⟩
theorem Spilt_nil (w : World) : Calls Try.prog 23 #[.pointer none] w fun e w' => e = .returned (.bool false) ∧ w = w' := by
  go_enter Try.func23, Try.ntmps23
  go_wp2_with fail
  go_ret
  exact ⟨rfl, rfl⟩
theorem Spilt_any (w : World) (hq : QR w F g room fs lost sp) : Calls Try.prog 23 #[.pointer (some ⟨g, 0, none⟩)] w fun e w' => e = .returned (.bool sp) ∧ QR w' F g room fs lost false ∧ Mv (fun b => b = g) w w' := by
  obtain ⟨hF, Aq, cq, hg, hfs⟩ := hq
  have F0 := hg.four
  cases sp with
  | false =>
    go_enter Try.func23, Try.ntmps23
    go_wp2_with fail
    go_ret
    exact ⟨rfl, ⟨hF, Aq, cq, hg, hfs⟩, Mv.refl _ _⟩
  | true =>
    go_enter Try.func23, Try.ntmps23
    go_wp2_with fail
    go_ret
    exact ⟨rfl, ⟨hF, Aq, cq, hg.set_ 3 (.bool false), hfs.mv (Mv.setCell w ⟨g, 3, none⟩ _) fun b _ h => h.2⟩, Mv.setCell w ⟨g, 3, none⟩ _⟩
theorem Take_nil (w : World) : Calls Try.prog 10 #[.pointer none] w fun e w' => e = .returned (.tuple #[.agg #[.int .i64 0, .bool false, .slice none 0 0], .bool false]) ∧ Below w.heap.size w w' := by
  have K := Blk.new w 29 #[.int .i64 0, .bool false, .slice none 0 0]
  obtain ⟨r0, r1, r2, r3⟩ := (K.store3 (.int .i64 0) (.bool false) (.slice none 0 0)).three
  have F0 := K.three
  go_enter Try.func10, Try.ntmps10
  go_wp2_with fail
  refine (Len_nil _).mono ?_
  rintro e w1 ⟨rfl, rfl⟩
  go_wp2_with fail
  exact bodyPost_ret (v := .tuple #[.agg #[.int .i64 0, .bool false, .slice none 0 0], .bool false]) (by simp [results, Try.results10, go_sem, r0, r1, r2]) rfl ⟨rfl, alloc_one _ _⟩
theorem Take_empty (w : World) (hq : QR w F g room [] lost sp) : Calls Try.prog 10 #[.pointer (some ⟨g, 0, none⟩)] w fun e w' => e = .returned (.tuple #[.agg #[.int .i64 0, .bool false, .slice none 0 0], .bool false]) ∧ Below w.heap.size w w' := by
  have K := Blk.new w 29 #[.int .i64 0, .bool false, .slice none 0 0]
  obtain ⟨r0, r1, r2, r3⟩ := (K.store3 (.int .i64 0) (.bool false) (.slice none 0 0)).three
  have F0 := K.three
  go_enter Try.func10, Try.ntmps10
  go_wp2_with fail
  refine (Len_any _ (hq.below (alloc_one _ _))).mono ?_
  rintro e w1 ⟨rfl, rfl⟩
  go_wp2_with fail
  exact bodyPost_ret (v := .tuple #[.agg #[.int .i64 0, .bool false, .slice none 0 0], .bool false]) (by simp [results, Try.results10, go_sem, r0, r1, r2]) rfl ⟨rfl, alloc_one _ _⟩
theorem take_end {A1 At : Option Addr} {n1 c1 ct : Nat} {fd : List UInt8} (w : World) (hF : F g) {Aq : Option Addr} {nq cq : Nat} (hg : Blk w g 56 #[.int .i64 room, .slice Aq nq cq, .int .i64 lost, .bool sp])
    (hfs : RFp w (fun b => F b ∧ b ≠ g) At fs.length ct fs) (hr : RBp w (fun b => F b ∧ b ≠ g) A1 n1 c1 fd) (X Y : Obj) :
    RBp (((w.setCell ⟨g, 1, none⟩ (.slice At fs.length ct)).alloc X).alloc Y) F A1 n1 c1 fd ∧
    QR (((w.setCell ⟨g, 1, none⟩ (.slice At fs.length ct)).alloc X).alloc Y) F g room fs lost sp ∧ Mv (fun b => b = g) w (((w.setCell ⟨g, 1, none⟩ (.slice At fs.length ct)).alloc X).alloc Y) := by
  have M : Mv (fun b => b = g) w (((w.setCell ⟨g, 1, none⟩ (.slice At fs.length ct)).alloc X).alloc Y) :=
    ((Mv.setCell w ⟨g, 1, none⟩ (.slice At fs.length ct)).trans (Mv.alloc _ X (fun b => b = g)) fun _ _ h => h).trans (Mv.alloc _ Y (fun b => b = g)) fun _ _ h => h
  exact ⟨(hr.mv M fun _ _ h => h.2).mono fun _ _ h => h.1, ⟨hF, At, ct, ((hg.set_ 1 (.slice At fs.length ct)).alloc X).alloc Y, hfs.mv M fun _ _ h => h.2⟩, M⟩
set_option maxRecDepth 100000 in
set_option maxHeartbeats 2000000 in
theorem Take_any (w : World) (f : Can.Fr) (hq : QR w F g room (f :: fs) lost sp) : Calls Try.prog 10 #[.pointer (some ⟨g, 0, none⟩)] w fun e w' =>
    ∃ A n c, e = .returned (.tuple #[.agg #[.int .i64 f.id, .bool f.rem, .slice A n c], .bool true]) ∧ RBp w' F A n c f.data ∧ QR w' F g room fs lost sp ∧ Mv (fun b => b = g) w w' := by
  have C1 := Lib.hid (fun w => Len_any w (F := F) (g := g) (room := room) (fs := f :: fs) (lost := lost) (sp := sp))
  obtain ⟨hF, Aq, cq, hg, hfs⟩ := id hq
  have hq1 := Lib.hid (hq.below (alloc_one w (.cells #[.int .i64 0, .bool false, .slice none 0 0] 29)))
  have F0 := (hg.alloc (.cells #[.int .i64 0, .bool false, .slice none 0 0] 29)).four
  have hlt := hg.lt
  obtain ⟨b, o, A1, n1, c1, rfl, hbB, q0, q1, q2, hr⟩ := hfs.at_ (i := 0) (by simp)
  have hdrop := hfs.drop (k := 1) (by simp)
  have hcap : fs.length + 1 ≤ cq := by obtain ⟨xs, h1, _⟩ := hfs; exact h1.le
  have hcap2 : cq ≤ 9223372036854775807 := by obtain ⟨xs, h1, _⟩ := hfs; exact h1.cap
  simp only [List.length_cons, List.getD_cons_zero, Nat.zero_mul, Nat.add_zero, Nat.add_sub_cancel, List.drop_succ_cons, List.drop_zero] at hdrop hg F0 q0 q1 q2 hr
  obtain ⟨fi, fr, fd⟩ := f
  dsimp only at q0 q1 hr
  have ht : (((fs.length + 1 : Nat) : Int) == 0) = false := by rw [beq_eq_false_iff_ne]; omega
  clear hfs hq
  by_cases hc1 : cq = 1
  · subst hc1
    rw [if_pos rfl] at hdrop
    obtain rfl : fs = [] := List.eq_nil_of_length_eq_zero (by omega)
    have HD : Hid (RFp w (fun b => F b ∧ b ≠ g) (some ⟨b, o, none⟩) ([] : List Can.Fr).length 0 []) := Lib.hid hdrop
    clear hdrop
    have HR := Lib.hid hr; clear hr
    go_enter Try.func10, Try.ntmps10
    go_wp2_with fail
    refine (C1.out _ hq1.out).mono ?_
    rintro e w1 ⟨rfl, rfl⟩
    go_wp2_with fail
    obtain ⟨e1, e2, e3⟩ := take_end w hF hg HD.out HR.out (.cells #[.int .i64 fi, .bool fr, .slice A1 n1 c1] 29) (.cells #[.int .i64 fi, .bool fr, .slice A1 n1 c1] 29)
    exact bodyPost_ret (v := .tuple #[.agg #[.int .i64 fi, .bool fr, .slice A1 n1 c1], .bool true]) (by simp [results, Try.results10, go_sem]) rfl ⟨A1, n1, c1, rfl, e1, e2, e3⟩
  · rw [if_neg hc1] at hdrop
    simp only [Option.map_some, Addr.add_lit, Nat.one_mul] at hdrop
    have HD := Lib.hid hdrop; clear hdrop
    have HR := Lib.hid hr; clear hr
    have hb1 : (cq = 1) = False := by simpa using hc1
    go_enter Try.func10, Try.ntmps10
    go_wp2_with fail
    refine (C1.out _ hq1.out).mono ?_
    rintro e w1 ⟨rfl, rfl⟩
    go_wp2_with fail
    obtain ⟨e1, e2, e3⟩ := take_end w hF hg HD.out HR.out (.cells #[.int .i64 fi, .bool fr, .slice A1 n1 c1] 29) (.cells #[.int .i64 fi, .bool fr, .slice A1 n1 c1] 29)
    exact bodyPost_ret (v := .tuple #[.agg #[.int .i64 fi, .bool fr, .slice A1 n1 c1], .bool true]) (by simp [results, Try.results10, go_sem]) rfl ⟨A1, n1, c1, rfl, e1, e2, e3⟩
set_option maxRecDepth 100000 in
set_option maxHeartbeats 2000000 in
theorem List_nil (w : World) : Calls Try.prog 26 #[.pointer none] w fun e w' => e = .returned (.slice none 0 0) ∧ w = w' := by
  go_enter Try.func26, Try.ntmps26
  go_wp2_with fail
  go_ret
  exact ⟨rfl, rfl⟩
set_option maxRecDepth 100000 in
set_option maxHeartbeats 2000000 in
theorem List_any (w : World) (hq : QR w F g room fs lost sp) (hd : ∀ f ∈ fs, f.data.length ≤ 8) (hn : fs.length ≤ 1000) : Calls Try.prog 26 #[.pointer (some ⟨g, 0, none⟩)] w fun e w' => ∃ A c, e = .returned (.slice A fs.length c) ∧ OFs w' w.heap.size A fs.length c fs ∧ Below w.heap.size w w' := by
  obtain ⟨hF, Aq, cq, hg, hfs⟩ := id hq
  have F0 := hg.four
  have hrf := hfs.rf
  have hfl := hrf.lt
  generalize hm : fs.length = m at *
  have HM := Lib.hid hm; clear hm
  go_enter Try.func26, Try.ntmps26
  go_wp2_with fail
  go_loopw [3, 13] (fun v i wr => ∃ (k : Nat) (A : Option Addr) (c : Nat), k ≤ m ∧ i = .int .i64 k ∧ v = .slice A k c ∧ OFs wr w.heap.size A k c (fs.take k) ∧ Below w.heap.size w wr) (fun _ i _ => m - (intOf i).toNat)
  case atStart => exact ⟨0, none, 0, by omega, rfl, rfl, OFs.none_ _ _, Below.refl _ _⟩
  case round =>
    obtain ⟨k, A, c, hk, rfl, rfl, hown, hbel⟩ := hrel
    by_cases hlt : k < m
    · obtain ⟨b, o, A1, n1, c1, rfl, hbB, q0, q1, q2, hr⟩ := (hrf.below hbel).at_ hlt
      have hmem : fs.getD k Can.zero ∈ fs := by
        have hkl : k < fs.length := by rw [HM.out]; exact hlt
        rw [show fs.getD k Can.zero = fs[k] by simp [List.getD, hkl]]
        exact List.getElem_mem hkl
      have hdl := hd _ hmem
      have htk : fs.take (k + 1) = fs.take k ++ [fs.getD k Can.zero] := by
        have hkl : k < fs.length := by rw [HM.out]; exact hlt
        rw [List.take_succ_eq_append_getElem hkl]
        simp [List.getD, hkl]
      generalize fs.getD k Can.zero = f at *
      obtain ⟨fi, fr, fd⟩ := f
      dsimp only at *
      have HT := Lib.hid htk; clear htk
      obtain rfl : fd.length = n1 := hr.len
      have hz := hbel.size
      have hr1 := hr.alloc hz (.cells #[.int .i64 fi, .bool fr, .slice A1 fd.length c1] 29)
      go_wp2_with fail
      refine (own_any fi fr _ hr1 (by simp; omega) (by omega)).mono ?_
      rintro e w1 ⟨A2, c2, rfl, o2, b2⟩
      have d2 := below_step (below_step hbel (alloc_one wr (.cells #[.int .i64 fi, .bool fr, .slice A1 fd.length c1] 29)) (Nat.le_refl _)) b2 (Nat.le_refl _)
      have own2 := (hown.alloc (.cells #[.int .i64 fi, .bool fr, .slice A1 fd.length c1] 29)).below b2
      have o2' := o2.more (base' := w.heap.size) (by simp; omega)
      go_wp2_with (at_builtin; refine wpList_appf rfl (.tmp 17) (.tmp 20) rfl rfl rfl (by simp) w.heap.size own2 ⟨fi, fr, fd⟩ o2' (by omega) d2.size ?_; intro A3 c3 w3 o3 b3 _)
      go_roundw
      case rel => exact ⟨k + 1, A3, c3, by omega, by go_num, rfl, by rw [HT.out]; exact o3, d2.trans b3⟩
      case measure => simp [intOf] <;> omega
    · obtain rfl : k = m := by omega
      go_wp2_with fail
      go_ret
      refine ⟨A, c, rfl, ?_, hbel⟩
      rw [List.take_of_length_le (by rw [HM.out]; exact Nat.le_refl _)] at hown
      exact hown
theorem Copy_nil (w : World) : Calls Try.prog 25 #[.pointer none] w fun e w' => e = .returned (.pointer none) ∧ w = w' := by
  go_enter Try.func25, Try.ntmps25
  go_wp2_with fail
  go_ret
  exact ⟨rfl, rfl⟩
set_option maxRecDepth 100000 in
set_option maxHeartbeats 2000000 in
theorem Copy_any (w : World) (hq : QR w F g room fs lost sp) (hr : 1 ≤ room) (hd : ∀ f ∈ fs, f.data.length ≤ 8) (hn : fs.length ≤ 1000) : Calls Try.prog 25 #[.pointer (some ⟨g, 0, none⟩)] w fun e w' => ∃ g', e = .returned (.pointer (some ⟨g', 0, none⟩)) ∧ QR w' (fun b => w.heap.size ≤ b) g' room fs lost sp ∧ Below w.heap.size w w' := by
  obtain ⟨hF, Aq, cq, hg, hfs⟩ := id hq
  have F0 := hg.four
  have hz : (room == 0) = false := by rw [beq_eq_false_iff_ne]; omega
  have hq1 := hq.below (alloc_one w (.cells #[.int .i64 room, .slice Aq fs.length cq, .int .i64 lost, .bool sp] 56))
  go_enter Try.func25, Try.ntmps25
  go_wp2_with fail
  refine (List_any _ hq1 hd hn).mono ?_
  rintro e w1 ⟨A1, c1, rfl, o1, b1⟩
  have K := Blk.made b1
  have F1 := K.four
  have d1 := below_step (alloc_one w _) b1 (Nat.le_refl _)
  go_wp2_with fail
  go_ret
  refine ⟨w.heap.size, rfl, ⟨Nat.le_refl _, A1, c1, K.set_ 1 (.slice A1 fs.length c1), ?_⟩, d1.setCell (p := ⟨w.heap.size, 1, none⟩) (Nat.le_refl _) _⟩
  obtain ⟨xs, h1, h2⟩ := o1
  have M := Mv.setCell w1 ⟨w.heap.size, 1, none⟩ (.slice A1 fs.length c1)
  have up : ∀ q, (w.alloc (.cells #[.int .i64 room, .slice Aq fs.length cq, .int .i64 lost, .bool sp] 56)).heap.size ≤ q → w.heap.size ≤ q ∧ q ≠ w.heap.size := fun q hq => by simp at hq; omega
  exact ⟨xs, (h1.rvp (F := fun b => w.heap.size ≤ b ∧ b ≠ w.heap.size) fun q hq => up q (h1.lt q hq).1).mv M fun _ _ h => h.2,
    h2.imp fun f cs ⟨A2, n2, c2, e, hb⟩ => FrP.mv ⟨A2, n2, c2, e, hb.rbp fun q hq => up q (hb.lt q hq).1⟩ M fun _ _ h => h.2⟩
end
end Go.Proofs.Ytmhcobhpdlpoeaa
