/-
  Walk: TxqOrder.
  Conditions: none.
-/
import Derived.Test.YtmhcobhpdlpoeaaKnown
import Derived.Test.YtmhcobhpdlpoeaaOrd
namespace Go.Proofs.Ytmhcobhpdlpoeaa
set_option linter.unusedVariables false
set_option linter.unusedSimpArgs false
open Go.ChangeShapes Go.WideShapes Go.ChangeAt Go.RowKit
theorem etbo : ET Try.prog 32 4 1 1 (.bool false) := ⟨Try.underlying32, info_parts (by kernel_rfl), rfl, by decide⟩
theorem made_bools (n : Nat) : ((madeCells (Value.bool false).cells (n * 1)).toList.take (n * 1)) = List.replicate n (.bool false) := by
  have : (Value.bool false).cells = #[.bool false] := rfl
  rw [this, toList_madeCells_one]
  simp
theorem RB.rbp {w : World} {B n c : Nat} {A : Option Addr} {l : List UInt8} (h : RB w B A n c l) (hB : B ≤ w.heap.size) {F : Nat → Prop} (hF : ∀ b, b < B → F b) : RBp w F A n c l :=
  ⟨h.len, h.le, h.cap, h.nil, fun hn => by
    obtain ⟨b, o, e, hb, hc⟩ := h.at_ hn
    exact ⟨b, o, e, hF b hb, Nat.lt_of_lt_of_le hb hB, hc⟩⟩
/-- The queue, and the frames that went in. -/
structure OInv (W w : World) (A : Option Addr) (c : Nat) (L : List Can.Fr) : Prop where
  foot : ∃ Fq Fi : Nat → Prop, QR w Fq W.heap.size 64 (Can.orderS L) 0 false ∧ OFp w Fi A L.length c L ∧ (∀ b, Fq b → ¬ Fi b) ∧ (∀ b, Fq b → W.heap.size ≤ b ∧ b < w.heap.size) ∧ (∀ b, Fi b → b < w.heap.size) ∧ (∀ b, b < W.heap.size → Fi b)
  own : ∀ b, (Value.slice A L.length c).ownBlock = some b → W.heap.size ≤ b
  below : Below W.heap.size W w
theorem oinv_mk {W w : World} {A : Option Addr} {c : Nat} {L : List Can.Fr} {Fq Fi : Nat → Prop} (q : QR w Fq W.heap.size 64 (Can.orderS L) 0 false) (r : OFp w Fi A L.length c L) (hd : ∀ b, b < w.heap.size → Fq b → ¬ Fi b)
    (h1 : ∀ b, b < w.heap.size → Fq b → W.heap.size ≤ b) (h2 : ∀ b, b < W.heap.size → Fi b) (h3 : ∀ b, (Value.slice A L.length c).ownBlock = some b → W.heap.size ≤ b) (h4 : Below W.heap.size W w) : OInv W w A c L :=
  ⟨⟨fun b => Fq b ∧ b < w.heap.size, fun b => Fi b ∧ b < w.heap.size, q.mono fun b hb h => ⟨h, hb⟩, r.mono fun b hb h => ⟨h, hb⟩, fun b h h' => hd b h.2 h.1 h'.1, fun b h => ⟨h1 b h.2 h.1, h.2⟩, fun b h => h.2, fun b h => ⟨h2 b h, Nat.lt_of_lt_of_le h h4.size⟩⟩, h3, h4⟩
def usedAt (N : Nat) (R : List Nat) (us : List Value) : Prop := ∀ j, j < N → us[j]? = some (.bool (!R.contains j))
theorem used_start (N : Nat) : usedAt N (List.range N) (List.replicate N (.bool false)) := fun j hj => by
  rw [List.getElem?_replicate, if_pos hj, show (List.range N).contains j = true by simpa using hj]
  rfl
theorem used_step {N m : Nat} {R R' : List Nat} {us : List Value} (hl : us.length = N) (h : usedAt N R us) (hm : ∀ j, j ∈ R' ↔ j ∈ R ∧ j ≠ m) : usedAt N R' (us.set m (.bool true)) := fun j hj => by
  by_cases e : m = j
  · subst e
    rw [List.getElem?_set_self (by omega)]
    have : R'.contains m = false := by
      rw [Bool.eq_false_iff]
      intro hc
      exact ((hm m).1 (by simpa using hc)).2 rfl
    rw [this]
    rfl
  · rw [List.getElem?_set_ne e, h j hj]
    have : R'.contains j = R.contains j := by
      rw [Bool.eq_iff_iff]
      simp only [List.contains_iff_mem]
      rw [hm j]
      exact ⟨fun h => h.1, fun h => ⟨h, fun h' => e h'.symm⟩⟩
    rw [this]
/-- One frame taken: what is known between two rounds. -/
structure OMid (W w : World) (Fq Fi : Nat → Prop) (A : Option Addr) (c gu gl k N : Nat) (L : List Can.Fr) (pl : Int) : Prop where
  rest : ∃ (R : List Nat) (li : Int) (lr : Bool) (ld : List UInt8) (Al : Option Addr) (nl cl : Nat) (us : List Value), Can.Rest L R k ⟨li, lr, ld⟩ pl ∧ QR w Fq W.heap.size 64 (Can.orderS (Can.frs L R)) 0 false ∧
    OV w W.heap.size 4 1 (some ⟨gu, 0, none⟩) N N us ∧ usedAt N R us ∧ Blk w gl 29 #[.int .i64 li, .bool lr, .slice Al nl cl]
  rows : RFp w Fi A N c L
  below : Below W.heap.size W w
/-- A frame marked, and kept as the last one. -/
theorem OMid.next {W w : World} {Fq Fi : Nat → Prop} {A : Option Addr} {c gu gl k N m : Nat} {L : List Can.Fr} {R' R : List Nat} {fi : Int} {fr : Bool} {fd : List UInt8} {A2 : Option Addr} {n2 c2 : Nat} {x y z : Value} {us : List Value}
    (hrest : Can.Rest L R' (k + 1) ⟨fi, fr, fd⟩ (m : Int)) (q : QR w Fq W.heap.size 64 (Can.orderS (Can.frs L R')) 0 false) (u : OV w W.heap.size 4 1 (some ⟨gu, 0, none⟩) N N us) (hus : usedAt N R us) (hm : ∀ j, j ∈ R' ↔ j ∈ R ∧ j ≠ m)
    (K : Blk w gl 29 #[x, y, z]) (rows : RFp w Fi A N c L) (hbel : Below W.heap.size W w) (hgq : ∀ b, Fq b → b < gu) (hgi : ∀ b, Fi b → b < gu) (hgg : gu < gl) (hgW : W.heap.size ≤ gu) :
    OMid W ((((w.setCell ⟨gu, m, none⟩ (.bool true)).setCell ⟨gl, 0, none⟩ (.int .i64 fi)).setCell ⟨gl, 1, none⟩ (.bool fr)).setCell ⟨gl, 2, none⟩ (.slice A2 n2 c2)) Fq Fi A c gu gl (k + 1) N L m := by
  have hl : us.length = N := by have := u.1; omega
  have S := u.set m (.bool true)
  have M1 : Mv (fun b => b = gu ∨ b = gl) w ((((w.setCell ⟨gu, m, none⟩ (.bool true)).setCell ⟨gl, 0, none⟩ (.int .i64 fi)).setCell ⟨gl, 1, none⟩ (.bool fr)).setCell ⟨gl, 2, none⟩ (.slice A2 n2 c2)) :=
    ((((Mv.setCell w ⟨gu, m, none⟩ (.bool true)).mono (G := fun b => b = gu ∨ b = gl) fun b _ h => .inl h).trans (Mv.setCell _ ⟨gl, 0, none⟩ _) fun b _ h => .inr h).trans (Mv.setCell _ ⟨gl, 1, none⟩ _) fun b _ h => .inr h).trans (Mv.setCell _ ⟨gl, 2, none⟩ _) fun b _ h => .inr h
  have M2 : Mv (fun b => b = gl) (w.setCell ⟨gu, m, none⟩ (.bool true)) ((((w.setCell ⟨gu, m, none⟩ (.bool true)).setCell ⟨gl, 0, none⟩ (.int .i64 fi)).setCell ⟨gl, 1, none⟩ (.bool fr)).setCell ⟨gl, 2, none⟩ (.slice A2 n2 c2)) :=
    ((Mv.setCell _ ⟨gl, 0, none⟩ _).trans (Mv.setCell _ ⟨gl, 1, none⟩ _) fun b _ h => h).trans (Mv.setCell _ ⟨gl, 2, none⟩ _) fun b _ h => h
  refine ⟨⟨R', fi, fr, fd, A2, n2, c2, us.set m (.bool true), hrest, q.mv M1 fun b _ h e => ?_, S.1.mv M2 fun q hq e => ?_, used_step hl hus hm, (K.far (p := ⟨gu, m, none⟩) (by show gl ≠ gu; omega) (.bool true)).store3 _ _ _⟩, rows.mv M1 fun b _ h e => ?_, below_mv hbel M1 hbel.size fun b e => ?_⟩
  · have := hgq b h; omega
  · have : q = gu := by simpa [Value.ownBlock] using hq.symm
    omega
  · have := hgi b h; omega
  · omega
set_option maxRecDepth 100000 in
set_option maxHeartbeats 16000000 in
theorem TxqOrder_walk {A : Option Addr} {n c : Nat} {fs : List Can.Fr} (W : World) (h : RF W W.heap.size A n c fs) :
    Calls Try.prog 3 #[.slice A n c] W fun e w' => e = .returned (.bool true) ∧ Below W.heap.size W w' := by
  have hn := h.lt
  have q1 := QR.new W 64
  have d1 := alloc_one W (.cells #[.int .i64 64, .slice none 0 0, .int .i64 0, .bool false] 56)
  go_enter Try.func3, Try.ntmps3
  go_wp2_with fail
  refine (New_ok 64 _ (by omega) (by omega)).mono ?_
  rintro e w1 ⟨rfl, rfl⟩
  have I0 := oinv_mk (A := none) (c := 0) (L := []) q1 (OFp.none_ _ (fun b => b < W.heap.size)) (fun b _ h h' => by omega) (fun b _ h => h) (fun b h => h) (fun b h => by cases h) d1
  generalize W.alloc (.cells #[.int .i64 64, .slice none 0 0, .int .i64 0, .bool false] 56) = w1 at *
  clear q1 d1
  go_wp2_with fail
  go_loopw [5, 6] (fun v i wr => ∃ (k : Nat) (L : List Can.Fr) (A5 : Option Addr) (c5 : Nat), k ≤ n ∧ k ≤ 40 ∧ i = .int .i64 k ∧ v = .slice A5 L.length c5 ∧ L.length ≤ k ∧ OInv W wr A5 c5 L) (fun _ i _ => n - (intOf i).toNat)
  case atStart => exact ⟨0, [], none, 0, by omega, by omega, rfl, rfl, by simp, I0⟩
  case round =>
    clear I0
    obtain ⟨k, L, A5, c5, hk, hk2, rfl, rfl, hLk, I⟩ := hrel
    have hbel := I.below
    by_cases hgo : k < n ∧ k < 40
    · obtain ⟨hlt, h40⟩ := hgo
      obtain ⟨b, o, A1, n1, c1, rfl, hbB, x0, x1, x2, hr⟩ := (h.below hbel).at_ hlt
      generalize fs.getD k Can.zero = f at *
      obtain ⟨fi, fr, fd⟩ := f
      dsimp only at *
      obtain rfl : fd.length = n1 := hr.len
      by_cases hbig : 1000 < fd.length
      · go_wp2_with fail
        refine (known_any _).mono ?_
        rintro e w2 ⟨rfl, b2⟩
        go_wp2_with fail
        go_ret
        exact ⟨rfl, below_step hbel b2 (Nat.le_refl _)⟩
      · obtain ⟨⟨Fq, Fi, q, r, hd, hq, hi, hi2⟩, hown, _⟩ := I
        have hgq : Fq W.heap.size := q.1
        have hord := Can.orderS_length _ L rfl
        have HX := Lib.hid (fun (w' : World) (D : Below W.heap.size W w') => (⟨((D.cell hbB).trans (hbel.cell hbB).symm).trans x0, ((D.cell hbB).trans (hbel.cell hbB).symm).trans x1, ((D.cell hbB).trans (hbel.cell hbB).symm).trans x2⟩ : w'.cell? _ = _ ∧ w'.cell? _ = _ ∧ w'.cell? _ = _))
        have HR := Lib.hid (fun (w' : World) (D : Below W.heap.size W w') => hr.keep (w' := w') fun p hp => (D.cell hp).trans (hbel.cell hp).symm)
        by_cases hck : Can.check ⟨fi, fr, fd⟩ = 0
        · have C := Lib.hid (Put_in _ q (by omega) (by omega) hr hbel.size hck (by omega))
          have hoa := Can.orderS_append _ L ⟨fi, fr, fd⟩ rfl
          have HOA := Lib.hid hoa; have HCK := Lib.hid hck; have HORD := Lib.hid hord; clear hoa hck hord
          go_wp2_with fail
          refine (C.out).mono ?_
          rintro e w2 ⟨rfl, q2, m2⟩
          have D2 := below_mv hbel m2 hbel.size fun b h => by omega
          have r2 := r.mv m2 fun b _ h e => by subst e; exact hd _ hgq h
          obtain ⟨y0, y1, y2⟩ := HX.out w2 D2
          have hrp := (HR.out w2 D2).rbp D2.size (F := fun b => Fi b ∧ some b ≠ (Value.slice A5 L.length c5).ownBlock) fun b hb => ⟨hi2 b hb, fun e => by have := hown b e.symm; omega⟩
          have hz2 := m2.size
          go_wp2_with (at_builtin; refine wpList_appfp rfl (.tmp 51) (.tmp 56) rfl rfl rfl (by simp) r2 ⟨fi, fr, fd⟩ hrp (by omega) ?_; intro A3 c3 w3 r3 g3 l3)
          go_roundw
          case rel =>
            have hown5 : ∀ b, some b = (Value.slice A5 L.length c5).ownBlock → Fi b := by
              obtain ⟨_, _, h5, _⟩ := r
              exact fun b e => h5 b e.symm
            have D3 := D2.trans ((Mv.of_grown g3).below (B := W.heap.size) D2.size fun b e => hown b e.symm)
            have q2' := q2.mono (G := fun b => (Fq b ∨ wr.heap.size ≤ b) ∧ b < w2.heap.size) fun b hb h => ⟨h, hb⟩
            have q3 := q2'.mv (Mv.of_grown g3) fun b hb h e => by
              have h6 := hown5 b e
              rcases h.1 with h | h
              · exact hd b h h6
              · have := hi b h6; omega
            rw [← HOA.out] at q3
            have hl1 : (L ++ [(⟨fi, fr, fd⟩ : Can.Fr)]).length = L.length + 1 := by simp
            refine ⟨k + 1, L ++ [⟨fi, fr, fd⟩], A3, c3, by omega, by omega, by go_num, by rw [hl1], by rw [hl1]; omega, ?_⟩
            refine oinv_mk (Fi := fun b => Fi b ∨ w2.heap.size ≤ b) q3 (by rw [hl1]; exact r3) (fun b _ h h' => ?_) (fun b _ h => ?_) (fun b h => .inl (hi2 b h)) (fun b e => ?_) D3
            · rcases h' with h' | h'
              · rcases h.1 with h | h
                · exact hd b h h'
                · have := hi b h'; omega
              · have := h.2; omega
            · rcases h.1 with h | h
              · exact (hq b h).1
              · have := hbel.size; omega
            · rw [hl1] at e
              rcases l3 with l3 | l3
              · exact hown b (l3 ▸ e)
              · rw [l3] at e
                injection e with e
                have := D2.size
                omega
          case measure => simp [intOf] <;> omega
        · have C := Lib.hid (Put_bad _ q (by omega) hr hck)
          have hck0 : (Can.check ⟨fi, fr, fd⟩ == 0) = false := by simpa using hck
          generalize Can.check ⟨fi, fr, fd⟩ = z at *
          clear hck
          go_wp2_with fail
          refine (C.out).mono ?_
          rintro e w2 ⟨rfl, b2⟩
          go_wp2_with fail
          go_roundw
          case rel => exact ⟨k + 1, L, A5, c5, by omega, by omega, by go_num, rfl, by omega, oinv_mk (q.below b2) (r.below b2) (fun b _ h => hd b h) (fun b _ h => (hq b h).1) hi2 hown (below_step hbel b2 (Nat.le_refl _))⟩
          case measure => simp [intOf] <;> omega
    · have hex : k = n ∨ (k = 40 ∧ 40 < n) := by omega
      clear hgo h
      obtain ⟨⟨Fq, Fi, q, r, hd, hq, hi, hi2⟩, hown, _⟩ := I
      have hgq : Fq W.heap.size := q.1
      have hzw := hbel.size
      have r0 := r.rfp
      have hL40 : L.length ≤ 40 := by omega
      generalize hN : L.length = N at *
      have HN := Lib.hid hN; clear hN r
      rcases hex with rfl | ⟨rfl, hn40⟩
      all_goals
        go_wp2_with (at_make; refine wpList_mk etbo rfl (.tmp 59) (.tmp 59) rfl .i64 .i64 N N rfl rfl (Nat.le_refl _) (by omega) (by omega) W.heap.size hbel.size ?_; intro w1 u1 g1 z1; have Z1 := Lib.hid z1; clear z1)
        rw [made_bools] at u1
        generalize hgu : wr.heap.size = gu at *
        have HGU := Lib.hid hgu; clear hgu
        have M1 : Mv (fun _ => False) wr w1 := (Mv.of_grown g1).mono fun b _ h => by cases h
        have D1 := below_mv hbel M1 (by have := HGU.out; omega) fun b h => h.elim
        have K1 := Blk.new w1 29 #[.int .i64 0, .bool false, .slice none 0 0]
        have a1 := alloc_one w1 (.cells #[.int .i64 0, .bool false, .slice none 0 0] 29)
        have I2 : OMid W (w1.alloc (.cells #[.int .i64 0, .bool false, .slice none 0 0] 29)) Fq Fi A5 c5 gu w1.heap.size 0 N L (-1) := by
          refine ⟨⟨List.range N, 0, false, [], none, 0, 0, List.replicate N (.bool false), ?_, ?_, u1.below a1, used_start N, K1⟩, (r0.mv M1 fun _ _ _ h => h).below a1, below_step D1 a1 (Nat.le_refl _)⟩
          · rw [← HN.out]; exact Can.Rest.start L _ _
          · rw [← HN.out, Can.frs_range]; exact (q.mv M1 fun _ _ _ h => h).below a1
        have hgl : gu < w1.heap.size := by have := Z1.out; omega
        clear K1 a1 D1 M1 g1 u1 q r0 Z1
        go_wp2_with fail
        generalize w1.alloc (.cells #[.int .i64 0, .bool false, .slice none 0 0] 29) = w2 at *
        generalize w1.heap.size = gl at *
        go_loopw [9, 10] (fun p i wi => ∃ (k : Nat) (pl : Int), k ≤ N ∧ i = .int .i64 k ∧ p = .int .i64 pl ∧ OMid W wi Fq Fi A5 c5 gu gl k N L pl) (fun _ i _ => N - (intOf i).toNat)
        case atStart => exact ⟨0, -1, by omega, rfl, rfl, I2⟩
        case round =>
          clear I2
          obtain ⟨k, pl, hk, rfl, rfl, I3⟩ := hrel
          by_cases hlt : k < N
          · obtain ⟨⟨R, li, lr, ld, Al, nl, cl, us, hrest, q, u, hus, Kl⟩, rows, hbel⟩ := I3
            obtain ⟨m, R', hmR, hmL, hoc, hc, hrest', hmem⟩ := hrest.step (by rw [HN.out]; exact hlt)
            have hno := fun h => hrest.no h m hmR
            rw [HN.out] at hmL
            rw [hoc] at q
            generalize hf : L.getD m Can.zero = f at *
            obtain ⟨fi, fr, fd⟩ := f
            have HF := Lib.hid hf; have HOC := Lib.hid hoc; clear hf hoc
            have HC := Lib.hid hc; have HNO := Lib.hid hno; have HRE := Lib.hid hrest'; have HME := Lib.hid hmem; have HUS := Lib.hid hus; clear hc hno hrest' hmem hus hrest
            dsimp only at HNO
            have hgll := Kl.lt
            go_wp2_with fail
            refine (Take_any _ _ q).mono ?_
            rintro e w3 ⟨A2, n2, c2, rfl, rb3, q3, m3⟩
            dsimp only at rb3
            have D3 := below_mv hbel m3 hbel.size fun b h => by subst h; exact Nat.le_refl _
            have hgf := m3.size
            have a3 := alloc_one w3 (.cells #[.int .i64 fi, .bool fr, .slice A2 n2 c2] 29)
            have K3 := Blk.new w3 29 #[.int .i64 fi, .bool fr, .slice A2 n2 c2]
            have rows3 := (rows.mv m3 fun b _ h e => by subst e; exact hd _ hgq h).below a3
            have hgqu := (hq _ hgq).2
            have u3 := (OV.mv u m3 fun q hq e => by have : q = gu := by simpa [Value.ownBlock] using hq.symm
                                                    omega).below a3
            have Kl3 := (Kl.mv m3 (by omega)).later a3
            replace rb3 := (rb3.below a3).rb
            replace q3 := q3.below a3
            replace D3 := below_step D3 a3 (Nat.le_refl _)
            have hgf2 : gl < w3.heap.size := by omega
            clear q u Kl rows a3 hgf
            go_wp2_with fail
            generalize w3.alloc (.cells #[.int .i64 fi, .bool fr, .slice A2 n2 c2] 29) = w4 at *
            generalize w3.heap.size = gf at *
            go_loopw [13] (fun v wi => ∃ j : Nat, j ≤ m ∧ v = .int .i64 j ∧ Below w4.heap.size w4 wi) (fun v _ => m - (intOf v).toNat)
            case atStart => exact ⟨0, by omega, rfl, Below.refl _ _⟩
            case round =>
              obtain ⟨j, hj, rfl, bi⟩ := hrel
              have hjN : j < N := by omega
              obtain ⟨b, o, A1, n1, c1, rfl, hbB, x0, x1, x2, hr⟩ := (rows3.below bi).at_ hjN
              have u4 := u3.below bi
              have hcell : wr.cell? ⟨gu, j, none⟩ = some (.bool (!R.contains j)) := by
                obtain ⟨_, _, e1, _, hc'⟩ := u4.rv.at_ (show 0 < N by omega)
                injection e1 with e1
                injection e1 with e1 e2
                subst e1 e2
                have := hc' j _ (HUS.out j hjN)
                rwa [Nat.zero_add] at this
              have K4 := K3.later bi
              have G4 := K4.three3
              by_cases hjm : j = m
              · subst hjm
                have hcm : (!R.contains j) = false := by simpa using hmR
                rw [hcm] at hcell
                rw [HF.out] at x0 x1 hr
                dsimp only at x0 x1 hr
                have HS := Lib.hid (Can.sameB_refl ⟨fi, fr, fd⟩); have HCM := Lib.hid hcm; clear hcm hmR
                have y0 := cell_regrown x0; have y1 := cell_regrown x1; have y2 := cell_regrown x2; have yc := cell_regrown hcell
                clear x0 x1 x2
                go_wp2_with fail
                refine region_later (by kernel_rfl) ?_
                refine phase_later (by kernel_rfl) 4 (below_drew _) [0, 1, 2, 3, 4, 5, 6, 7, 8, 9, 10, 11, 14, 12, 13] rfl (by kernel_rfl) ?_
                simp only [picks, nth]
                repeat (go_big_quiet_step (fail))
                refine wpQuiet_nil ?_
                refine phase_op 15 3 rfl (by kernel_rfl) (by decide) ?_
                simp only [nth]
                go_wp2_with fail
                refine (RSame_any fi fr fi fr _ (hr.rb.below (below_drew _)) ((rb3.below bi).below ((below_drew _).mono bi.size)) (Nat.le_refl _) bi.size).mono ?_
                rintro e w5 ⟨he, b5⟩
                rw [HS.out] at he
                subst he
                have b5' := below_step (below_drew wr) b5 (Nat.le_refl _)
                go_wp2_with fail
                refine behind_later b5' ?_
                refine phase_later (by kernel_rfl) 0 (Below.refl _ _) [16, 17, 18] rfl (by kernel_rfl) ?_
                simp only [picks, nth]
                repeat (go_big_quiet_step (fail))
                refine wpQuiet_nil ?_
                refine phase_end (by kernel_rfl) ?_
                have B5 := below_step bi b5' (Nat.le_refl _)
                have K5 := K3.later B5
                have Kl5 := Kl3.later B5
                have u5 := u3.below B5
                have close := fun w6 (B6 : Below w4.heap.size w4 w6) => OMid.next (A2 := A2) (n2 := n2) (c2 := c2) HRE.out (q3.below B6) (u3.below B6) HUS.out HME.out (Kl3.later B6) (rows3.below B6) (below_step D3 B6 (Nat.le_refl _)) (fun b h => (hq b h).2) (fun b h => hi b h) hgl hzw
                have CL := Lib.hid close; clear close
                have cell6 : ∀ w6 : World, Below w4.heap.size w4 w6 → w6.cell? ⟨gu, j, none⟩ = some (.bool false) ∧ w6.frozen? ⟨gu, j, none⟩ = false := fun w6 B6 => by
                  have hcm := HCM.out
                  have u6 := u3.below B6
                  refine ⟨?_, u6.free j⟩
                  obtain ⟨_, _, e1, _, hc'⟩ := u6.rv.at_ (show 0 < N by omega)
                  injection e1 with e1
                  injection e1 with e1 e2
                  subst e1 e2
                  have := hc' j _ (HUS.out j hjN)
                  rw [hcm, Nat.zero_add] at this
                  exact this
                have C6 := Lib.hid cell6; clear cell6
                have F5 := K5.three
                have L5 := Kl5.three
                obtain ⟨z0, z1⟩ := C6.out w5 B5
                have F7 := (K5.far (p := ⟨gu, j, none⟩) (by show gf ≠ gu; omega) (.bool true)).three
                have L7 := (Kl5.far (p := ⟨gu, j, none⟩) (by show gl ≠ gu; omega) (.bool true)).three
                clear hcell yc y0 y1 y2 G4 K4 u4 u5
                by_cases hk0 : k = 0
                · subst hk0
                  go_wp2_with fail
                  go_roundw
                  case rel => exact ⟨1, j, by omega, rfl, rfl, CL.out _ B5⟩
                  case measure => simp [intOf] <;> omega
                · obtain ⟨hb0, hkey⟩ := HNO.out (by omega)
                  change Can.beforeN fi fr li lr = false at hb0
                  have HB := Lib.hid hb0; clear hb0
                  by_cases e1 : fi = li
                  · by_cases e2 : fr = lr
                    · have hpl := hkey e1 e2
                      subst e1 e2
                      clear hkey
                      have hp2 : ¬ ((j : Int) < pl) := by omega
                      go_wp2_with fail
                      refine (RBefore_any fi fr fi fr _).mono ?_
                      rintro e w6 ⟨he, b6⟩
                      rw [HB.out] at he
                      subst he
                      have B6 := below_step B5 b6 (Nat.le_refl _)
                      have F6 := (K5.later b6).three
                      have L6 := (Kl5.later b6).three
                      have F8 := ((K5.later b6).far (p := ⟨gu, j, none⟩) (by show gf ≠ gu; omega) (.bool true)).three
                      have L8 := ((Kl5.later b6).far (p := ⟨gu, j, none⟩) (by show gl ≠ gu; omega) (.bool true)).three
                      obtain ⟨z2, z3⟩ := C6.out w6 B6
                      go_wp2_with fail
                      go_roundw
                      case rel => exact ⟨k + 1, j, by omega, by go_num, rfl, CL.out _ B6⟩
                      case measure => simp [intOf] <;> omega
                    · clear hkey
                      have h1 : (fi == li) = true := by simpa using e1
                      have h2 : (fr == lr) = false := by simpa using e2
                      clear e1 e2
                      go_wp2_with fail
                      refine (RBefore_any fi fr li lr _).mono ?_
                      rintro e w6 ⟨he, b6⟩
                      rw [HB.out] at he
                      subst he
                      have B6 := below_step B5 b6 (Nat.le_refl _)
                      have F6 := (K5.later b6).three
                      have L6 := (Kl5.later b6).three
                      have F8 := ((K5.later b6).far (p := ⟨gu, j, none⟩) (by show gf ≠ gu; omega) (.bool true)).three
                      have L8 := ((Kl5.later b6).far (p := ⟨gu, j, none⟩) (by show gl ≠ gu; omega) (.bool true)).three
                      obtain ⟨z2, z3⟩ := C6.out w6 B6
                      go_wp2_with fail
                      go_roundw
                      case rel => exact ⟨k + 1, j, by omega, by go_num, rfl, CL.out _ B6⟩
                      case measure => simp [intOf] <;> omega
                  · clear hkey
                    have h1 : (fi == li) = false := by simpa using e1
                    clear e1
                    go_wp2_with fail
                    refine (RBefore_any fi fr li lr _).mono ?_
                    rintro e w6 ⟨he, b6⟩
                    rw [HB.out] at he
                    subst he
                    have B6 := below_step B5 b6 (Nat.le_refl _)
                    have F6 := (K5.later b6).three
                    have L6 := (Kl5.later b6).three
                    have F8 := ((K5.later b6).far (p := ⟨gu, j, none⟩) (by show gf ≠ gu; omega) (.bool true)).three
                    have L8 := ((Kl5.later b6).far (p := ⟨gu, j, none⟩) (by show gl ≠ gu; omega) (.bool true)).three
                    obtain ⟨z2, z3⟩ := C6.out w6 B6
                    go_wp2_with fail
                    go_roundw
                    case rel => exact ⟨k + 1, j, by omega, by go_num, rfl, CL.out _ B6⟩
                    case measure => simp [intOf] <;> omega
              · by_cases hjR : j ∈ R
                · have hcm : (!R.contains j) = false := by simpa using hjR
                  rw [hcm] at hcell
                  have hs := HC.out j (by omega) hjR
                  generalize L.getD j Can.zero = g at *
                  obtain ⟨gi, gr, gd⟩ := g
                  dsimp only at x0 x1 hr hs
                  have HS := Lib.hid hs; clear hs hcm hjR
                  have y0 := cell_regrown x0; have y1 := cell_regrown x1; have y2 := cell_regrown x2; have yc := cell_regrown hcell
                  clear x0 x1 x2 hcell
                  go_wp2_with fail
                  refine region_later (by kernel_rfl) ?_
                  refine phase_later (by kernel_rfl) 4 (below_drew _) [0, 1, 2, 3, 4, 5, 6, 7, 8, 9, 10, 11, 14, 12, 13] rfl (by kernel_rfl) ?_
                  simp only [picks, nth]
                  repeat (go_big_quiet_step (fail))
                  refine wpQuiet_nil ?_
                  refine phase_op 15 3 rfl (by kernel_rfl) (by decide) ?_
                  simp only [nth]
                  go_wp2_with fail
                  refine (RSame_any gi gr fi fr _ (hr.rb.below (below_drew _)) ((rb3.below bi).below ((below_drew _).mono bi.size)) (Nat.le_refl _) bi.size).mono ?_
                  rintro e w5 ⟨he, b5⟩
                  rw [HS.out] at he
                  subst he
                  have b5' := below_step (below_drew wr) b5 (Nat.le_refl _)
                  go_wp2_with fail
                  refine behind_later b5' ?_
                  refine phase_later (by kernel_rfl) 0 (Below.refl _ _) [16, 17, 18] rfl (by kernel_rfl) ?_
                  simp only [picks, nth]
                  repeat (go_big_quiet_step (fail))
                  refine wpQuiet_nil ?_
                  refine phase_end (by kernel_rfl) ?_
                  go_wp2_with fail
                  go_roundw
                  case rel => exact ⟨j + 1, by omega, by go_num, below_step bi b5' (Nat.le_refl _)⟩
                  case measure => simp [intOf] <;> omega
                · have hcm : (!R.contains j) = true := by simpa using hjR
                  rw [hcm] at hcell
                  clear hcm hjR
                  have y0 := cell_regrown x0; have y1 := cell_regrown x1; have y2 := cell_regrown x2; have yc := cell_regrown hcell
                  clear x0 x1 x2 hcell
                  go_wp2_with fail
                  refine region_later (by kernel_rfl) ?_
                  refine phase_later (by kernel_rfl) 4 (below_drew _) [0, 1, 2, 3, 4, 5, 6, 7, 8, 9, 10, 11, 14, 12, 13] rfl (by kernel_rfl) ?_
                  simp only [picks, nth]
                  repeat (go_big_quiet_step (fail))
                  refine wpQuiet_nil ?_
                  refine phase_op 15 3 rfl (by kernel_rfl) (by decide) ?_
                  simp only [nth]
                  go_wp2_with fail
                  refine behind_later (below_drew wr) ?_
                  refine phase_later (by kernel_rfl) 0 (Below.refl _ _) [16, 17, 18] rfl (by kernel_rfl) ?_
                  simp only [picks, nth]
                  repeat (go_big_quiet_step (fail))
                  refine wpQuiet_nil ?_
                  refine phase_end (by kernel_rfl) ?_
                  go_wp2_with fail
                  go_roundw
                  case rel => exact ⟨j + 1, by omega, by go_num, below_step bi (below_drew _) (Nat.le_refl _)⟩
                  case measure => simp [intOf] <;> omega
          · obtain rfl : k = N := by omega
            obtain ⟨⟨R, li, lr, ld, Al, nl, cl, us, hrest, q, u, hus, Kl⟩, rows, hbel⟩ := I3
            obtain rfl : R = [] := List.eq_nil_of_length_eq_zero (by have := hrest.len; have := HN.out; omega)
            change QR wr Fq W.heap.size 64 [] 0 false at q
            clear hus u Kl rows hrest
            go_wp2_with fail
            refine (Take_empty _ q).mono ?_
            rintro e w3 ⟨rfl, b3⟩
            have b4 := below_step b3 (alloc_one w3 (.cells #[.int .i64 0, .bool false, .slice none 0 0] 29)) (Nat.le_refl _)
            have q4 := q.below b4
            go_wp2_with fail
            refine (Len_any _ q4).mono ?_
            rintro e _ ⟨rfl, rfl⟩
            go_wp2_with fail
            refine (known_any _).mono ?_
            rintro e w5 ⟨rfl, b5⟩
            go_wp2_with fail
            go_ret
            exact ⟨rfl, below_step (below_step hbel b4 (Nat.le_refl _)) b5 (Nat.le_refl _)⟩
end Go.Proofs.Ytmhcobhpdlpoeaa
