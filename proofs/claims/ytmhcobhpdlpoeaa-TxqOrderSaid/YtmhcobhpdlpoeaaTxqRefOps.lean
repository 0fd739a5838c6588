/-
  Walks: the reference's first, without, Take, List.
  Conditions: none.
-/
import Derived.Test.YtmhcobhpdlpoeaaTxqRef
namespace Go.Proofs.Ytmhcobhpdlpoeaa
set_option linter.unusedVariables false
set_option linter.unusedSimpArgs false
open Go.RowKit
set_option maxRecDepth 100000 in
set_option maxHeartbeats 2000000 in
theorem first_any {A : Option Addr} {n c B : Nat} {fs : List Can.Fr} (w : World) (h : RF w B A n c fs) (hB : B ≤ w.heap.size) :
    Calls Try.prog 36 #[.slice A n c] w fun e w' => e = .returned (.int .i64 (Can.firstS fs : Int)) ∧ Below w.heap.size w w' := by
  have hn := h.lt
  have hl := h.len
  have HL := Lib.hid hl; clear hl
  go_enter Try.func36, Try.ntmps36
  go_wp2_with fail
  go_loopw [3, 4] (fun u v wr => ∃ k : Nat, 1 ≤ k ∧ (k ≤ n ∨ k = 1) ∧ v = .int .i64 k ∧ u = .int .i64 (Can.firstTo fs k : Int) ∧ Below w.heap.size w wr) (fun _ v _ => n - (intOf v).toNat)
  case atStart => exact ⟨1, by omega, .inr rfl, rfl, by rw [Can.firstTo_one]; rfl, Below.refl _ _⟩
  case round =>
    obtain ⟨k, hk1, hk, rfl, rfl, hbel⟩ := hrel
    by_cases hlt : k < n
    · have hft := Can.firstTo_lt fs k hk1
      have hfs : Can.firstTo fs (k + 1) = if Can.before (fs.getD k Can.zero) (fs.getD (Can.firstTo fs k) Can.zero) = true then k else Can.firstTo fs k := rfl
      generalize hq : Can.firstTo fs k = q at *
      have HQ := Lib.hid hq; clear hq
      have hrf := h.below (hbel.mono hB)
      obtain ⟨b, o, A1, n1, c1, rfl, hbB, q0, q1, q2, hr⟩ := hrf.at_ hlt
      obtain ⟨b', o', A2, n2, c2, e2, hbB', q0', q1', q2', hr'⟩ := hrf.at_ (show q < n by omega)
      injection e2 with e2
      injection e2 with e2 e3
      subst e2 e3
      generalize fs.getD k Can.zero = f at *
      generalize fs.getD q Can.zero = f' at *
      obtain ⟨fi, fr, fd⟩ := f
      obtain ⟨fi', fr', fd'⟩ := f'
      change Can.firstTo fs (k + 1) = if Can.beforeN fi fr fi' fr' = true then k else q at hfs
      dsimp only at *
      have HFS := Lib.hid hfs; clear hfs
      replace q0 := cell_regrown q0
      replace q1 := cell_regrown q1
      replace q2 := cell_regrown q2
      replace q0' := cell_regrown q0'
      replace q1' := cell_regrown q1'
      replace q2' := cell_regrown q2'
      have C1 := Lib.hid (fun w => RBefore_any fi fr (A := A1) (n := n1) (c := c1) fi' fr' (A' := A2) (n' := n2) (c' := c2) w)
      generalize hbv : Can.beforeN fi fr fi' fr' = bv at *
      clear hbv
      cases bv
      all_goals
        go_wp2_with fail
        refine region_later (by kernel_rfl) ?_
        refine phase_later (by kernel_rfl) 1 (below_drew _) [0, 1, 4, 5, 2, 6, 3, 7] rfl (by kernel_rfl) ?_
        simp only [picks, nth]
        repeat (go_big_quiet_step (fail))
        refine wpQuiet_nil ?_
        refine phase_op 8 0 rfl (by kernel_rfl) (by decide) ?_
        simp only [nth]
        go_wp2_with fail
        refine (C1.out _).mono ?_
        rintro e w1 ⟨rfl, b1⟩
        have d1 := below_step (below_drew wr) b1 (Nat.le_refl _)
        go_wp2_with fail
        refine behind_later d1 ?_
        refine phase_end (by kernel_rfl) ?_
        go_wp2_with fail
        go_roundw
        case rel => exact ⟨k + 1, by omega, .inl (by omega), by go_num, by rw [HFS.out]; rfl, below_step hbel d1 (Nat.le_refl _)⟩
        case measure => simp [intOf] <;> omega
    · go_wp2_with fail
      go_ret
      refine ⟨ret_int ?_, hbel⟩
      have hl := HL.out
      rcases hk with hk | rfl
      · unfold Can.firstS
        rw [hl, show k = n by omega]
      · unfold Can.firstS
        rw [hl]
        rcases Nat.eq_zero_or_pos n with h0 | h0
        · rw [h0, Can.firstTo_one]; rfl
        · rw [show n = 1 by omega]
set_option maxRecDepth 100000 in
set_option maxHeartbeats 2000000 in
theorem without_any {F : Nat → Prop} {A : Option Addr} {n c : Nat} {fs : List Can.Fr} (w : World) (k : Nat) (h : RFp w F A n c fs) (hk : k < n) (hn : n ≤ 100000) :
    Calls Try.prog 37 #[.slice A n c, .int .i64 (k : Int)] w fun e w' => ∃ A1 c1, e = .returned (.slice A1 (n - 1) c1) ∧ OFp w' (fun b => (F b ∧ b < w.heap.size) ∨ w.heap.size ≤ b) A1 (n - 1) c1 (Can.withoutS fs k) ∧
      (∀ q, (Value.slice A1 (n - 1) c1).ownBlock = some q → w.heap.size ≤ q) ∧ Below w.heap.size w w' := by
  obtain ⟨hcap, hcap2⟩ : n ≤ c ∧ c ≤ 9223372036854775807 := by obtain ⟨xs, h1, _⟩ := h; exact ⟨h1.le, h1.cap⟩
  have hl := h.len
  have HL := Lib.hid hl; clear hl
  have hhead := fun w => run_cut_head etf A n c k (by omega) .i64 w
  have hcut := fun w => run_cut_rest (P := Try.prog) etf A n c (k + 1) (by omega) .i64 w
  rw [show (((k + 1 : Nat) : Int)) = (k : Int) + 1 by omega] at hcut
  obtain ⟨xs, hx1, hrx⟩ := h.take (k := k) (by omega) (Nat.le_refl c) (by omega)
  obtain ⟨ys, hy1, hry⟩ := h.drop (k := k + 1) (by omega)
  generalize (if c = k + 1 then A else A.map (·.add ((k + 1) * 3))) = At at *
  go_enter Try.func37, Try.ntmps37
  go_wp2_with (first
    | (at_builtin; refine wpList_app etf rfl (.tmp 6) (.tmp 9) rfl rfl rfl w.heap.size (OV.none_ _ _ _ _) hx1.rv (frow_oneCell hrx) (by omega) (by omega) (Nat.le_refl _) ?_; intro A1 c1 w1 o1 g1 _; simp only [Nat.zero_add, List.nil_append] at o1; have b1 := grown_below g1 (OV.none_ w w.heap.size 0 0).lt (Nat.le_refl _); have hy2 := hy1.below b1)
    | (at_builtin; refine wpList_app etf rfl (.tmp 11) (.tmp 15) rfl rfl rfl w.heap.size o1 hy2.rv (frow_oneCell hry) (by omega) (by omega) b1.size ?_; intro A2 c2 w2 o2 g2 _; have b2 := b1.trans (grown_below g2 o1.lt b1.size)))
  go_ret
  have hnn : k + (n - (k + 1)) = n - 1 := by omega
  rw [hnn] at o2
  rw [hnn]
  have hlen : ∀ q, (Value.slice A2 (n - 1) c2).ownBlock = some q → w.heap.size ≤ q := fun q hq => (o2.lt q hq).1
  refine ⟨A2, c2, rfl, ⟨_, o2.more (Nat.zero_le _), fun q hq => .inr (hlen q hq), ?_⟩, hlen, b2⟩
  have up : ∀ {fs : List Can.Fr} {zs : List Value}, Rows (FrP w F) 3 fs zs → Rows (FrP w2 (fun b => ((F b ∧ b < w.heap.size) ∨ w.heap.size ≤ b) ∧ some b ≠ (Value.slice A2 (n - 1) c2).ownBlock)) 3 fs zs := fun hr => hr.imp fun f cs hf =>
    (hf.mono (G := fun b => ((F b ∧ b < w.heap.size) ∨ w.heap.size ≤ b) ∧ some b ≠ (Value.slice A2 (n - 1) c2).ownBlock) fun b hb h => ⟨.inl ⟨h, hb⟩, fun e => by have := hlen b e.symm; omega⟩).below b2
  exact Rows.append (up hrx) (up hry)
set_option maxRecDepth 100000 in
set_option maxHeartbeats 4000000 in
theorem RTake_empty {F : Nat → Prop} {g : Nat} {room lost : Int} {sp : Bool} (w : World) (hq : RQ w F g room [] lost sp) : Calls Try.prog 22 #[.pointer (some ⟨g, 0, none⟩)] w fun e w' => e = .returned (.tuple #[.agg #[.int .i64 0, .bool false, .slice none 0 0], .bool false]) ∧ Below w.heap.size w w' := by
  obtain ⟨hF, Aq, cq, hg, hfs⟩ := hq
  have F0 := (hg.alloc (.cells #[.int .i64 0, .bool false, .slice none 0 0] 29)).four
  go_enter Try.func22, Try.ntmps22
  go_wp2_with fail
  exact bodyPost_ret (v := .tuple #[.agg #[.int .i64 0, .bool false, .slice none 0 0], .bool false]) (by simp [results, Try.results22, go_sem]) rfl ⟨rfl, alloc_one _ _⟩
set_option maxRecDepth 100000 in
set_option maxHeartbeats 4000000 in
theorem RTake_any {F : Nat → Prop} {g : Nat} {room lost : Int} {fs : List Can.Fr} {sp : Bool} (w : World) (hq : RQ w F g room fs lost sp) (hne : fs ≠ []) (hn : fs.length ≤ 1000) : Calls Try.prog 22 #[.pointer (some ⟨g, 0, none⟩)] w fun e w' =>
    ∃ A n c, e = .returned (.tuple #[.agg #[.int .i64 (fs.getD (Can.firstS fs) Can.zero).id, .bool (fs.getD (Can.firstS fs) Can.zero).rem, .slice A n c], .bool true]) ∧ RB w' w'.heap.size A n c (fs.getD (Can.firstS fs) Can.zero).data ∧
      RQ w' (fun b => F b ∨ w.heap.size ≤ b) g room (Can.withoutS fs (Can.firstS fs)) lost sp ∧ Mv (fun b => b = g) w w' := by
  obtain ⟨hF, Aq, cq, hg, hfs⟩ := hq
  have hlt := hg.lt
  have hpos : 0 < fs.length := List.length_pos_iff.2 hne
  have hkl := Can.firstS_lt hne
  have hwl := Can.withoutS_length hkl
  have hz : ((fs.length : Int) == 0) = false := by rw [beq_eq_false_iff_ne]; omega
  have K1 := hg.alloc (.cells #[.int .i64 0, .bool false, .slice none 0 0] 29)
  have F0 := K1.four
  have KR := Blk.new w 29 #[.int .i64 0, .bool false, .slice none 0 0]
  have b0 := alloc_one w (.cells #[.int .i64 0, .bool false, .slice none 0 0] 29)
  have hfs1 := (hfs.mono (G := fun b => (F b ∧ b ≠ g) ∧ b < w.heap.size) fun b hb h => ⟨h, hb⟩).below b0
  generalize hm : fs.length = m at *
  have HM := Lib.hid hm; clear hm
  have HWL := Lib.hid hwl; clear hwl
  have HNE := Lib.hid hne; clear hne
  go_enter Try.func22, Try.ntmps22
  go_wp2_with fail
  refine (first_any _ hfs1.rfp.rf (Nat.le_refl _)).mono ?_
  rintro e w1 ⟨rfl, b1⟩
  generalize hk : Can.firstS fs = k at *
  have HK := Lib.hid hk; clear hk
  have d1 := below_step b0 b1 (Nat.le_refl _)
  have K2 := K1.later b1
  have KR2 := KR.later b1
  have hfs2 := hfs1.below b1
  obtain ⟨b, o, A1, n1, c1, rfl, hbB, q0, q1, q2, hr⟩ := hfs2.rfp.at_ hkl
  generalize hf : fs.getD k Can.zero = f at *
  have HF := Lib.hid hf; clear hf
  obtain ⟨fi, fr, fd⟩ := f
  dsimp only at *
  clear F0
  have F2 := K2.four
  have hlt2 := K2.lt
  go_wp2_with fail
  have b2 := alloc_one w1 (.cells #[.int .i64 fi, .bool fr, .slice A1 n1 c1] 29)
  refine (without_any _ k (hfs2.below b2).rfp hkl (by omega)).mono ?_
  rintro e w3 ⟨A3, c3, rfl, o3, hlow3, b3⟩
  have d3 := below_step b2 b3 (Nat.le_refl _)
  have K3 := K2.later d3
  have KR3 := KR2.later d3
  have KF3 := (Blk.new w1 29 #[.int .i64 fi, .bool fr, .slice A1 n1 c1]).later b3
  have F3 := K3.four
  have FR3 := KR3.three
  have FF3 := KF3.three
  clear F2
  go_wp2_with fail
  obtain ⟨r0, r1, r2, r3⟩ := ((KR3.far (p := ⟨g, 1, none⟩) (by show w.heap.size ≠ g; omega) (.slice A3 (m - 1) c3)).store3 (.int .i64 fi) (.bool fr) (.slice A1 n1 c1)).three
  have hz1 := d1.size
  have D : Below w.heap.size w w3 := below_step d1 d3 (Nat.le_refl _)
  have M : Mv (fun b => b = g) w ((((w3.setCell ⟨g, 1, none⟩ (.slice A3 (m - 1) c3)).setCell ⟨w.heap.size, 0, none⟩ (.int .i64 fi)).setCell ⟨w.heap.size, 1, none⟩ (.bool fr)).setCell ⟨w.heap.size, 2, none⟩ (.slice A1 n1 c1)) :=
    (((((Mv.of_new D _).trans (Mv.setCell w3 ⟨g, 1, none⟩ (.slice A3 (m - 1) c3)) fun b _ h => h).trans (Mv.setCell _ ⟨w.heap.size, 0, none⟩ (.int .i64 fi)) fun b hb h => absurd h (by show b ≠ w.heap.size; omega)).trans (Mv.setCell _ ⟨w.heap.size, 1, none⟩ (.bool fr)) fun b hb h => absurd h (by show b ≠ w.heap.size; omega)).trans (Mv.setCell _ ⟨w.heap.size, 2, none⟩ (.slice A1 n1 c1)) fun b hb h => absurd h (by show b ≠ w.heap.size; omega))
  have N : Mv (fun b => b = g ∨ b = w.heap.size) w3 ((((w3.setCell ⟨g, 1, none⟩ (.slice A3 (m - 1) c3)).setCell ⟨w.heap.size, 0, none⟩ (.int .i64 fi)).setCell ⟨w.heap.size, 1, none⟩ (.bool fr)).setCell ⟨w.heap.size, 2, none⟩ (.slice A1 n1 c1)) :=
    ((((Mv.setCell w3 ⟨g, 1, none⟩ (.slice A3 (m - 1) c3)).mono (G := fun b => b = g ∨ b = w.heap.size) fun b _ h => .inl h).trans (Mv.setCell _ ⟨w.heap.size, 0, none⟩ (.int .i64 fi)) fun b hb h => .inr h).trans (Mv.setCell _ ⟨w.heap.size, 1, none⟩ (.bool fr)) fun b hb h => .inr h).trans (Mv.setCell _ ⟨w.heap.size, 2, none⟩ (.slice A1 n1 c1)) fun b hb h => .inr h
  have HH := HK.out
  refine bodyPost_ret (v := .tuple #[.agg #[.int .i64 fi, .bool fr, .slice A1 n1 c1], .bool true]) (by simp [results, Try.results22, go_sem, r0, r1, r2]) rfl ?_
  subst HH
  rw [HF.out]
  refine ⟨A1, n1, c1, rfl, ((hr.below d3).mv N fun b hb h e => by rcases e with e | e <;> omega).rb, ⟨.inl hF, A3, c3, ?_, ?_⟩, M⟩
  · have hl1 : (Can.withoutS fs (Can.firstS fs)).length = m - 1 := by rw [HWL.out]
    rw [hl1]
    exact (((K3.set_ 1 (.slice A3 (m - 1) c3)).far (p := ⟨w.heap.size, 0, none⟩) (by show g ≠ w.heap.size; omega) _).far (p := ⟨w.heap.size, 1, none⟩) (by show g ≠ w.heap.size; omega) _).far (p := ⟨w.heap.size, 2, none⟩) (by show g ≠ w.heap.size; omega) _
  · have hl1 : (Can.withoutS fs (Can.firstS fs)).length = m - 1 := by rw [HWL.out]
    rw [hl1]
    refine (o3.mv N fun b hb h e => ?_).mono fun b hb h => ?_
    · rcases h with ⟨⟨⟨h1, h2⟩, h3⟩, h4⟩ | h
      · rcases e with e | e
        · exact h2 e
        · omega
      · have : (w1.alloc (.cells #[.int .i64 fi, .bool fr, .slice A1 n1 c1] 29)).heap.size = w1.heap.size + 1 := by simp
        rcases e with e | e <;> omega
    · rcases h with ⟨⟨⟨h1, h2⟩, h3⟩, h4⟩ | h
      · exact ⟨.inl h1, h2⟩
      · have : (w1.alloc (.cells #[.int .i64 fi, .bool fr, .slice A1 n1 c1] 29)).heap.size = w1.heap.size + 1 := by simp
        exact ⟨.inr (by omega), by omega⟩
set_option maxRecDepth 100000 in
set_option maxHeartbeats 4000000 in
theorem RList_any {F : Nat → Prop} {g : Nat} {room lost : Int} {fs : List Can.Fr} {sp : Bool} (w : World) (hq : RQ w F g room fs lost sp) (hn : fs.length ≤ 1000) : Calls Try.prog 28 #[.pointer (some ⟨g, 0, none⟩)] w fun e w' =>
    ∃ A c, e = .returned (.slice A fs.length c) ∧ RF w' w'.heap.size A fs.length c (Can.orderS fs) ∧ Below w.heap.size w w' := by
  obtain ⟨hF, Aq, cq, hg, hfs⟩ := hq
  have F0 := hg.four
  have hol := Can.orderS_length _ fs rfl
  have hrf : RFp w (fun b => b < w.heap.size) Aq fs.length cq fs := hfs.rfp.mono fun b hb _ => hb
  generalize hm : fs.length = m at *
  have HM := Lib.hid hm; clear hm
  generalize hord : Can.orderS fs = os at *
  have HO := Lib.hid hord; clear hord
  go_enter Try.func28, Try.ntmps28
  go_wp2_with fail
  go_loopw [3, 4] (fun u v wr => ∃ (done rest : List Can.Fr) (A A2 : Option Addr) (c c2 : Nat), u = .slice A done.length c ∧ v = .slice A2 rest.length c2 ∧ done ++ Can.orderS rest = os ∧ done.length + rest.length = m ∧
    OFp wr (fun _ => True) A done.length c done ∧ (∀ q, (Value.slice A done.length c).ownBlock = some q → w.heap.size ≤ q) ∧ RFp wr (fun b => some b ≠ (Value.slice A done.length c).ownBlock) A2 rest.length c2 rest ∧ Below w.heap.size w wr) (fun _ v _ => match v with | .slice _ n _ => n | _ => 0)
  case atStart => exact ⟨[], fs, none, Aq, 0, cq, rfl, by rw [HM.out], HO.out, by rw [HM.out]; simp, OFp.none_ _ _, (fun q hq => by cases hq), (by rw [HM.out]; exact hrf.mono fun b _ _ e => by cases e), Below.refl _ _⟩
  case round =>
    obtain ⟨done, rest, A, A2, c, c2, rfl, rfl, hdo, hlen, hout, hlow, hrest, hbel⟩ := hrel
    have HDO := Lib.hid hdo; clear hdo
    by_cases hnil : rest = []
    · subst hnil
      go_wp2_with fail
      go_ret
      have h1 : done = os := by have := HDO.out; rw [Can.orderS_nil, List.append_nil] at this; exact this
      have h2 : done.length = m := by simpa using hlen
      subst h1
      rw [h2] at hout ⊢
      exact ⟨A, c, rfl, hout.rfp.rf, hbel⟩
    · have hpos := List.length_pos_iff.2 hnil
      have hkl := Can.firstS_lt hnil
      have hoc := Can.orderS_cons hnil
      have hwl := Can.withoutS_length hkl
      have hfa := fun w h hB => first_any (A := A2) (n := rest.length) (c := c2) (B := wr.heap.size) (fs := rest) w h hB
      generalize hk : Can.firstS rest = k at *
      have HK := Lib.hid hk; have HOC := Lib.hid hoc; have HWL := Lib.hid hwl; have HFA := Lib.hid hfa
      clear hk hoc hwl hfa
      generalize hrl : rest.length = rl at *
      have HRL := Lib.hid hrl; clear hrl
      go_wp2_with fail
      refine (HFA.out _ hrest.rf (Nat.le_refl _)).mono ?_
      rintro e w1 ⟨rfl, b1⟩
      have d1 := below_step hbel b1 (Nat.le_refl _)
      have hout1 := hout.below b1
      have hrest1 := hrest.below b1
      obtain ⟨b, o, A1, n1, c1, rfl, hbB, q0, q1, q2, hr⟩ := hrest1.at_ hkl
      generalize hf : rest.getD k Can.zero = f at *
      obtain ⟨fi, fr, fd⟩ := f
      dsimp only at *
      have HF := Lib.hid hf; clear hf
      generalize hdl : done.length = dl at *
      have HDL := Lib.hid hdl; clear hdl
      go_wp2_with (at_builtin; refine wpList_appfp rfl (.tmp 15) (.tmp 20) rfl rfl rfl rfl hout1 ⟨fi, fr, fd⟩ (hr.mono fun b _ h => ⟨trivial, h⟩) (by omega) ?_; intro A3 c3 w3 hout3 g3 hloc3)
      have hrest3 := (hrest1.mono (G := fun b => some b ≠ (Value.slice A dl c).ownBlock ∧ b < w1.heap.size) fun b hb h => ⟨h, hb⟩).mv (Mv.of_grown g3) fun b _ h e => h.1 e
      have hlt3 : ∀ q, (Value.slice A3 (dl + 1) c3).ownBlock = some q → q < w3.heap.size := fun q hq => by obtain ⟨_, h1, _, _⟩ := hout3; exact (h1.lt q hq).2
      have hz1 := d1.size
      have hz3 := g3.size
      have D3 : Below w.heap.size w w3 := d1.grown g3 d1.size fun q hq => hlow q hq
      refine (without_any _ k hrest3 hkl (by omega)).mono ?_
      rintro e w4 ⟨A4, c4, rfl, o4, hlow4, b4⟩
      go_wp2_with fail
      go_roundw
      case rel =>
        have hfin := HDO.out
        rw [HOC.out] at hfin
        have el : (done ++ [(⟨fi, fr, fd⟩ : Can.Fr)]).length = dl + 1 := by rw [List.length_append, HDL.out]; rfl
        have er : (Can.withoutS rest k).length = rl - 1 := HWL.out
        refine ⟨done ++ [⟨fi, fr, fd⟩], Can.withoutS rest k, A3, A4, c3, c4, by rw [el], by rw [er], by rw [List.append_assoc]; exact hfin, by rw [el, er]; omega, ?_, ?_, ?_, below_step D3 b4 (Nat.le_refl _)⟩
        · rw [el]; exact (hout3.below b4).mono fun _ _ _ => trivial
        · rw [el]
          intro q hq
          rcases hloc3 with e | e
          · exact hlow q (by rw [← e]; exact hq)
          · rw [hq] at e
            injection e with e
            omega
        · rw [el, er]
          refine o4.rfp.mono fun b hb h e => ?_
          rcases h with ⟨⟨h1, h2⟩, h3⟩ | h
          · rcases hloc3 with e' | e'
            · exact h1 (e.trans e')
            · rw [e'] at e
              injection e with e
              omega
          · have := hlt3 b e.symm
            omega
      case measure => simp <;> omega
end Go.Proofs.Ytmhcobhpdlpoeaa
