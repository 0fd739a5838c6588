/-
  Walk: TxqPlays.
  Conditions: none.
-/
import Derived.Test.YtmhcobhpdlpoeaaKnown
import Derived.Test.YtmhcobhpdlpoeaaOps
import Derived.Test.YtmhcobhpdlpoeaaListD
import Derived.Test.YtmhcobhpdlpoeaaFrmAll
import Derived.Deep.DeepCutAuto
import Derived.Deep.CutBlock
namespace Go.Proofs.Ytmhcobhpdlpoeaa
set_option linter.unusedVariables false
set_option linter.unusedSimpArgs false
open Go.ChangeShapes Go.WideShapes Go.ChangeAt Go.RowKit
/-- Both queues, in memory that they do not share. -/
structure Inv (W w : World) (room : Int) (k : Nat) (gq gr : Nat) (L : List Can.Fr) (lost : Int) (sp : Bool) : Prop where
  foot : ∃ Fq Fr : Nat → Prop, QR w Fq gq room (Can.orderS L) lost sp ∧ RQ w Fr gr room L lost sp ∧ (∀ b, Fq b → ¬ Fr b) ∧ (∀ b, Fq b → W.heap.size ≤ b ∧ b < w.heap.size) ∧ (∀ b, Fr b → W.heap.size ≤ b ∧ b < w.heap.size)
  small : ∀ f ∈ L, f.data.length ≤ 8
  lo : 0 ≤ lost
  hi : lost ≤ k
  len : (L.length : Int) ≤ room
  below : Below W.heap.size W w
theorem inv_mk {W w : World} {room : Int} {k gq gr : Nat} {L : List Can.Fr} {lost : Int} {sp : Bool} {Fq Fr : Nat → Prop} (q : QR w Fq gq room (Can.orderS L) lost sp) (r : RQ w Fr gr room L lost sp) (hd : ∀ b, b < w.heap.size → Fq b → ¬ Fr b)
    (h1 : ∀ b, b < w.heap.size → Fq b → W.heap.size ≤ b) (h2 : ∀ b, b < w.heap.size → Fr b → W.heap.size ≤ b) (h3 : ∀ f ∈ L, f.data.length ≤ 8) (h4 : 0 ≤ lost) (h5 : lost ≤ k) (h6 : (L.length : Int) ≤ room) (h7 : Below W.heap.size W w) : Inv W w room k gq gr L lost sp :=
  ⟨⟨fun b => Fq b ∧ b < w.heap.size, fun b => Fr b ∧ b < w.heap.size, q.mono fun b hb h => ⟨h, hb⟩, r.mono fun b hb h => ⟨h, hb⟩, fun b h h' => hd b h.2 h.1 h'.1, fun b h => ⟨h1 b h.2 h.1, h.2⟩, fun b h => ⟨h2 b h.2 h.1, h.2⟩⟩, h3, h4, h5, h6, h7⟩
theorem Inv.later {W w w' : World} {room : Int} {k k' gq gr : Nat} {L : List Can.Fr} {lost : Int} {sp : Bool} (h : Inv W w room k gq gr L lost sp) (hb : Below w.heap.size w w') (hk : k ≤ k') : Inv W w' room k' gq gr L lost sp := by
  obtain ⟨⟨Fq, Fr, q, r, hd, h1, h2⟩, h3, h4, h5, h6, h7⟩ := h
  exact inv_mk (q.below hb) (r.below hb) (fun b _ => hd b) (fun b _ h => (h1 b h).1) (fun b _ h => (h2 b h).1) h3 h4 (by omega) h6 (below_step h7 hb (Nat.le_refl _))
theorem order_len (L : List Can.Fr) : (Can.orderS L).length = L.length := Can.orderS_length _ L rfl
theorem mem_order : ∀ (n : Nat) (L : List Can.Fr), L.length = n → ∀ f, f ∈ Can.orderS L → f ∈ L
  | 0, L, h, f, hf => by
    obtain rfl := List.eq_nil_of_length_eq_zero h
    exact hf
  | n + 1, L, h, f, hf => by
    have hne : L ≠ [] := fun e => by rw [e] at h; cases h
    have hlt := Can.firstS_lt hne
    rw [Can.orderS_cons hne] at hf
    rcases List.mem_cons.1 hf with rfl | hf
    · rw [show L.getD (Can.firstS L) Can.zero = L[Can.firstS L] by simp [List.getD, hlt]]
      exact List.getElem_mem hlt
    · have := mem_order n _ (by rw [Can.withoutS_length hlt, h]; rfl) f hf
      unfold Can.withoutS at this
      rcases List.mem_append.1 this with h1 | h1
      · exact List.mem_of_mem_take h1
      · exact List.mem_of_mem_drop h1
theorem mem_without {L : List Can.Fr} {k : Nat} {f : Can.Fr} (h : f ∈ Can.withoutS L k) : f ∈ L := by
  unfold Can.withoutS at h
  rcases List.mem_append.1 h with h1 | h1
  · exact List.mem_of_mem_take h1
  · exact List.mem_of_mem_drop h1
theorem Put_ign {F : Nat → Prop} {g : Nat} {room lost : Int} {fs : List Can.Fr} {sp : Bool} (w : World) (hq : QR w F g room fs lost sp) (hr : 1 ≤ room) (hr2 : room ≤ 64) (hle : (fs.length : Int) ≤ room) (h1 : 0 ≤ lost) (h2 : lost ≤ 1000) :
    Calls Try.prog 9 #[.pointer (some ⟨g, 0, none⟩), .agg #[.int .i64 0, .bool false, .slice none 0 0]] w fun e w' => ∃ (v : Int) (f : Can.Fr) (tl : List Can.Fr) (lost' : Int) (sp' : Bool), e = .returned (.int .i64 v) ∧ QR w' (fun b => F b ∨ w.heap.size ≤ b) g room (f :: tl) lost' sp' ∧ Mv (fun b => b = g) w w' := by
  have hc : Can.check ⟨0, false, []⟩ = 0 := by decide
  by_cases hf : (fs.length : Int) = room
  · refine (Put_full w hq hr (RB.none_ (B := 0)) hc hf h1 (by omega)).mono ?_
    rintro e w' ⟨he, q, m⟩
    cases fs with
    | nil => simp at hf; omega
    | cons f tl => exact ⟨6, f, tl, _, _, he, q.mono fun b _ h => .inl h, m⟩
  · refine (Put_in w hq hr hr2 (RB.none_ (B := 0)) (Nat.zero_le _) hc (by omega)).mono ?_
    rintro e w' ⟨he, q, m⟩
    have hl := Can.insS_length ⟨0, false, []⟩ fs
    generalize Can.insS ⟨0, false, []⟩ fs = fs' at *
    cases fs' with
    | nil => simp at hl
    | cons f tl => exact ⟨0, f, tl, _, _, he, q, m⟩
theorem OB.mv {G : Nat → Prop} {w w' : World} {base n c : Nat} {A : Option Addr} {l : List UInt8} (h : OB w base A n c l) (hm : Mv G w w') (hd : ∀ k, (Value.slice A n c).ownBlock = some k → ¬ G k) : OB w' base A n c l := OV.mv (e := 5) (size := 1) h hm hd
theorem order_check {L : List Can.Fr} : ∀ f ∈ Can.orderS L, f ∈ L := fun f h => mem_order _ L rfl f h
def PlayRel (W : World) (room : Int) (k gr : Nat) (v : Value) (w : World) : Prop := ∃ (gq : Nat) (L : List Can.Fr) (lost : Int) (sp : Bool), v = .pointer (some ⟨gq, 0, none⟩) ∧ Inv W w room k gq gr L lost sp
set_option maxRecDepth 100000 in
set_option maxHeartbeats 16000000 in
theorem TxqPlays_walk {A : Option Addr} {n c : Nat} {ops : List Tq} (W : World) (room : Int) (wr : (Lit.int .i64 room).wf = true) (h : ROps W W.heap.size A n c ops) :
    Calls Try.prog 5 #[.int .i64 room, .slice A n c] W fun e w' => e = .returned (.bool true) ∧ Below W.heap.size W w' := by
  have hn := h.lt
  go_enter Try.func5, Try.ntmps5
  go_wp2_with fail
  refine (light_any _ h).mono ?_
  rintro e w0 ⟨b, rfl, rfl, hl⟩
  cases b with
  | false =>
    clear hl
    go_wp2_with fail
    refine (known_any _).mono ?_
    rintro e w2 ⟨rfl, b2⟩
    go_wp2_with fail
    go_ret
    exact ⟨rfl, b2⟩
  | true =>
  have hlight := hl rfl
  have HLT := Lib.hid hlight
  clear hl hlight
  by_cases hroom : ¬ (1 ≤ room ∧ room ≤ 64)
  · have C1 := Lib.hid (New_bad room W hroom)
    have C2 := Lib.hid (RNew_bad room W hroom)
    clear hroom
    go_wp2_with fail
    refine (C1.out).mono ?_
    rintro e w1 ⟨rfl, rfl⟩
    go_wp2_with fail
    refine (C2.out).mono ?_
    rintro e w2 ⟨rfl, b2⟩
    have hb0 : 0 < n ∨ n = 0 := by omega
    rcases hb0 with hb0 | hb0
    · go_wp2_with fail
      refine wp_loop_rounds 1 ?_
      rw [rounds_succ]
      go_wp2_with fail
      refine (known_any _).mono ?_
      rintro e w3 ⟨rfl, b3⟩
      go_wp2_with fail
      go_ret
      exact ⟨rfl, below_step b2 b3 (Nat.le_refl _)⟩
    · subst hb0
      go_wp2_with fail
      refine wp_loop_rounds 1 ?_
      rw [rounds_succ]
      go_wp2_with fail
      refine (known_any _).mono ?_
      rintro e w3 ⟨rfl, b3⟩
      go_wp2_with fail
      go_ret
      exact ⟨rfl, below_step b2 b3 (Nat.le_refl _)⟩
  obtain ⟨hr1, hr2⟩ := Classical.not_not.1 hroom
  clear hroom
  have q1 := QR.new W room
  have d1 := alloc_one W (.cells #[.int .i64 room, .slice none 0 0, .int .i64 0, .bool false] 56)
  go_wp2_with fail
  refine (New_ok room _ hr1 hr2).mono ?_
  rintro e w1 ⟨rfl, rfl⟩
  generalize hw1 : W.alloc (.cells #[.int .i64 room, .slice none 0 0, .int .i64 0, .bool false] 56) = w1 at *
  have hz1 : w1.heap.size = W.heap.size + 1 := by rw [← hw1]; simp
  have HW1 := Lib.hid hw1; clear hw1
  have HZ1 := Lib.hid hz1; clear hz1
  go_wp2_with fail
  refine (RNew_ok room _ hr1 hr2).mono ?_
  rintro e w2 ⟨rfl, rfl⟩
  have r2 : RQ (w1.alloc (.cells #[.int .i64 room, .slice none 0 0, .int .i64 0, .bool false] 50)) (fun b => w1.heap.size ≤ b) w1.heap.size room [] 0 false := ⟨Nat.le_refl _, none, 0, Blk.new _ _ _, OFp.none_ _ _⟩
  have b2 := alloc_one w1 (.cells #[.int .i64 room, .slice none 0 0, .int .i64 0, .bool false] 50)
  have q2 := (q1.mono (G := fun b => W.heap.size ≤ b ∧ b < w1.heap.size) fun b hb h => ⟨h, hb⟩).below b2
  have I0 := inv_mk (W := W) (k := 0) q2 r2 (fun b _ h h' => by omega) (fun b _ h => h.1) (fun b _ h => by have := HZ1.out; omega) (by simp) (by omega) (by omega) (by simp; omega) (below_step d1 b2 (Nat.le_refl _))
  generalize w1.heap.size = gr at *
  clear q1 q2 r2 b2 d1
  go_wp2_with fail
  go_loopw [5, 9] (fun v i wr => ∃ k : Nat, k ≤ n ∧ k ≤ 80 ∧ i = .int .i64 k ∧ PlayRel W room k gr v wr) (fun _ i _ => n - (intOf i).toNat)
  case atStart => exact ⟨0, by omega, by omega, rfl, _, [], 0, false, rfl, I0⟩
  case round =>
    clear I0
    obtain ⟨k, hk, hk2, rfl, gq, L, lost, sp, rfl, I⟩ := hrel
    have hbel := I.below
    by_cases hlt : k < n
    · by_cases h80 : k < 80
      · obtain ⟨b, o, A1, n1, c1, rfl, hbB, x0, x1, x2, x3, hr⟩ := (h.below hbel).at_ hlt
        have hsm := HLT.out k hlt h80
        generalize ops.getD k Tq.zero = op at *
        obtain ⟨z, fi, fr, fd⟩ := op
        dsimp only at *
        obtain rfl : fd.length = n1 := hr.len
        have hz := hbel.size
        have b1 := alloc_one wr (.cells #[.int .i64 z, .int .i64 fi, .bool fr, .slice A1 fd.length c1] 41)
        have I1 := I.later b1 (Nat.le_refl _)
        have hr1' := hr.below (b1.mono hz)
        have HR := Lib.hid (fun (w' : World) (D : Below W.heap.size W w') => hr.keep (w' := w') fun p hp => (D.cell hp).trans (hbel.cell hp).symm)
        have Kop := Blk.new wr 41 #[.int .i64 z, .int .i64 fi, .bool fr, .slice A1 fd.length c1]
        go_upto_block 2 with fail
        go_cut [5] (fun v wx => PlayRel W room (k + 1) gr v wx)
        case first =>
          have F0 := Kop.four
          have D1 := below_step hbel b1 (Nat.le_refl _)
          obtain ⟨⟨Fq, Fr, q, r, hd, hq1, hq2⟩, hsml, hlo, hhi, hlen, _⟩ := I
          have hgq : Fq gq := q.1
          have hgr : Fr gr := r.1
          have hnq : ¬ Fr gq := hd gq hgq
          have hnr : ¬ Fq gr := fun h => hd gr h hgr
          have hgq1 := hq1 gq hgq
          have hgr1 := hq2 gr hgr
          replace q := q.below b1
          replace r := r.below b1
          have hol := order_len L
          have hszW := D1.size
          have hs1 : (wr.alloc (.cells #[.int .i64 z, .int .i64 fi, .bool fr, .slice A1 fd.length c1] 41)).heap.size = wr.heap.size + 1 := by simp
          generalize hw1 : wr.alloc (.cells #[.int .i64 z, .int .i64 fi, .bool fr, .slice A1 fd.length c1] 41) = w1 at *
          have HW1 := Lib.hid hw1; have HS1 := Lib.hid hs1; have HOL := Lib.hid hol
          have hs2 : wr.heap.size < w1.heap.size := by omega
          clear hw1 hs1 hol
          by_cases z2 : z = 2
          · subst z2
            go_wp2_with fail
            refine (Spilt_any _ q).mono ?_
            rintro e w2 ⟨rfl, q2, m2⟩
            have r2 := r.mv m2 fun b _ h e => by subst e; exact hnq h
            go_wp2_with fail
            refine (RSpilt_any _ r2).mono ?_
            rintro e w3 ⟨rfl, r3, m3⟩
            have q3 := q2.mv m3 fun b _ h e => by subst e; exact hnr h
            have D := below_mv (below_mv D1 m2 hszW fun b h => by subst h; exact hgq1.1) m3 (Nat.le_trans hszW m2.size) fun b h => by subst h; exact hgr1.1
            go_wp2_with fail
            go_meet
            exact ⟨gq, L, lost, false, rfl, inv_mk q3 r3 (fun b _ h h' => hd b h h') (fun b _ h => (hq1 b h).1) (fun b _ h => (hq2 b h).1) hsml hlo (by omega) hlen D⟩
          by_cases z3 : z = 3
          · subst z3
            go_wp2_with fail
            refine (Clear_any _ q).mono ?_
            rintro e w2 ⟨rfl, q2, m2⟩
            have r2 := r.mv m2 fun b _ h e => by subst e; exact hnq h
            obtain ⟨_, Ar, cr, Kr, _⟩ := r2
            have Fr2 := Kr.four
            have D := (below_mv D1 m2 hszW fun b h => by subst h; exact hgq1.1).setCell (p := ⟨gr, 1, none⟩) hgr1.1 (.slice none 0 0)
            go_wp2_with fail
            go_meet
            exact ⟨gq, [], lost, sp, rfl, inv_mk (q2.mv (Mv.setCell w2 ⟨gr, 1, none⟩ (.slice none 0 0)) fun b _ h e => by subst e; exact hnr h) (Fr := Fr) ⟨hgr, none, 0, Kr.set_ 1 (.slice none 0 0), OFp.none_ _ _⟩ (fun b _ h h' => hd b h h') (fun b _ h => (hq1 b h).1) (fun b _ h => (hq2 b h).1) (by simp) hlo (by omega) (by simp; omega) D⟩
          by_cases z1 : z = 1
          · subst z1
            by_cases hnil : L = []
            · subst hnil
              have hsame := Lib.hid (Can.sameB_refl ⟨0, false, []⟩)
              go_wp2_with fail
              refine (Take_empty _ q).mono ?_
              rintro e w2 ⟨rfl, b2⟩
              have b2' := below_step b2 (alloc_one w2 (.cells #[.int .i64 0, .bool false, .slice none 0 0] 29)) (Nat.le_refl _)
              have K2 := Blk.new w2 29 #[.int .i64 0, .bool false, .slice none 0 0]
              go_wp2_with fail
              refine (RTake_empty _ (r.below b2')).mono ?_
              rintro e w3 ⟨rfl, b3⟩
              have F3 := (K2.later b3).three
              have hl3 := (K2.later b3).lt
              have b3' := below_step (below_step b2' b3 (Nat.le_refl _)) (alloc_one w3 (.cells #[.int .i64 0, .bool false, .slice none 0 0] 29)) (Nat.le_refl _)
              go_wp2_with fail
              refine (RSame_any 0 false 0 false _ (RB.none_ (B := 0)) (RB.none_ (B := 0)) (Nat.zero_le _) (Nat.zero_le _)).mono ?_
              rintro e w4 ⟨he, b4⟩
              rw [hsame.out] at he
              subst he
              have b4' := below_step b3' b4 (Nat.le_refl _)
              go_wp2_with fail
              go_meet
              exact ⟨gq, [], lost, sp, rfl, inv_mk (q.below b4') (r.below b4') (fun b _ h h' => hd b h h') (fun b _ h => (hq1 b h).1) (fun b _ h => (hq2 b h).1) hsml hlo (by omega) hlen (below_step D1 b4' (Nat.le_refl _))⟩
            · have hoc := Can.orderS_cons hnil
              have hkl := Can.firstS_lt hnil
              have hwl := Can.withoutS_length hkl
              have C2 := Lib.hid (fun (w : World) (F : Nat → Prop) (r : RQ w F gr room L lost sp) => RTake_any w r hnil (by omega))
              have hmw := fun f (h : f ∈ Can.withoutS L (Can.firstS L)) => hsml f (mem_without h)
              rw [hoc] at q
              generalize L.getD (Can.firstS L) Can.zero = f at *
              obtain ⟨xi, xr, xd⟩ := f
              generalize Can.withoutS L (Can.firstS L) = L' at *
              have hsame := Lib.hid (Can.sameB_refl ⟨xi, xr, xd⟩)
              have HOC := Lib.hid hoc; have HMW := Lib.hid hmw; have HWL := Lib.hid hwl
              clear hoc hmw hwl hkl
              go_wp2_with fail
              refine (Take_any _ _ q).mono ?_
              rintro e w2 ⟨A2, n2, c2, rfl, rb2, q2, m2⟩
              have D2 := below_mv D1 m2 hszW fun b h => by subst h; exact hgq1.1
              have r2 := r.mv m2 fun b _ h e => by subst e; exact hnq h
              have a2 := alloc_one w2 (.cells #[.int .i64 xi, .bool xr, .slice A2 n2 c2] 29)
              have K2 := Blk.new w2 29 #[.int .i64 xi, .bool xr, .slice A2 n2 c2]
              have hz2 := m2.size
              dsimp only at rb2
              go_wp2_with fail
              refine (C2.out _ _ (r2.below a2)).mono ?_
              rintro e w3 ⟨A3, n3, c3, rfl, rb3, r3, m3⟩
              have hz3 := m3.size
              have s2 : (w2.alloc (.cells #[.int .i64 xi, .bool xr, .slice A2 n2 c2] 29)).heap.size = w2.heap.size + 1 := by simp
              have S2 := Lib.hid s2; clear s2
              have K3 := K2.mv m3 (by have := hgr1.2; omega)
              have F3 := K3.three
              have hl3 := K3.lt
              have q3 := (q2.below a2).mv m3 fun b _ h e => by subst e; exact hnr h
              have rb3' := (rb2.below a2).mv m3 fun b _ h e => by subst e; exact hnr h
              have D3 := below_mv (below_step D2 a2 (Nat.le_refl _)) m3 (Nat.le_trans D2.size a2.size) fun b h => by subst h; exact hgr1.1
              have a3 := alloc_one w3 (.cells #[.int .i64 xi, .bool xr, .slice A3 n3 c3] 29)
              go_wp2_with fail
              refine (RSame_any xi xr xi xr _ (rb3'.rb.alloc (Nat.le_refl _) _) (rb3.alloc (Nat.le_refl _) _) (by simp) (by simp)).mono ?_
              rintro e w4 ⟨he, b4⟩
              rw [hsame.out] at he
              subst he
              have b4' := below_step a3 b4 (Nat.le_refl _)
              go_wp2_with fail
              go_meet
              refine ⟨gq, L', lost, sp, rfl, inv_mk (q3.below b4') (r3.below b4') (fun b _ h h' => ?_) (fun b _ h => (hq1 b h).1) (fun b _ h => ?_) HMW.out hlo (by omega) (by have := HWL.out; omega) (below_step D3 b4' (Nat.le_refl _))⟩
              · rcases h' with h' | h'
                · exact hd b h h'
                · have := (hq1 b h).2; have := S2.out; omega
              · rcases h with h | h
                · exact (hq2 b h).1
                · have := S2.out; omega
          by_cases z0 : z = 0
          · subst z0
            have hpo := put_order ⟨fi, fr, fd⟩ room L lost sp
            have hpf := putR_facts ⟨fi, fr, fd⟩ room L lost sp k hsml hlo hhi hlen
            have d1 := fun (w : World) (A : Option Addr) (c B : Nat) (hq : QR w Fq gq room (Can.orderS L) lost sp) (h : RB w B A fd.length c fd) (hB : B ≤ w.heap.size) => Put_all (i := fi) (r := fr) w hq hr1 hr2 h hB (by have := HOL.out; omega) hlo (by omega)
            have d2 := fun (w : World) (A : Option Addr) (c B : Nat) (hq : RQ w Fr gr room L lost sp) (h : RB w B A fd.length c fd) (hB : B ≤ w.heap.size) => RPut_all (i := fi) (r := fr) w hq hr2 h hB hlen hlo (by omega)
            rw [hpo] at d1
            generalize putR ⟨fi, fr, fd⟩ room L lost sp = pr at *
            obtain ⟨pv, pL, pl, ps⟩ := pr
            dsimp only at d1 d2 hpf
            have C1 := Lib.hid d1; have C2 := Lib.hid d2; have HPF := Lib.hid hpf
            clear d1 d2 hpo hpf
            have hvv : (pv != pv) = false := by simp
            have a1 := alloc_one w1 (.cells #[.int .i64 fi, .bool fr, .slice A1 fd.length c1] 29)
            have hs3 : (w1.alloc (.cells #[.int .i64 fi, .bool fr, .slice A1 fd.length c1] 29)).heap.size = w1.heap.size + 1 := by simp
            have HS3 := Lib.hid hs3; clear hs3
            go_wp2_with fail
            refine (Lent_any _ (hr1'.alloc hszW _) (by omega) (by have := HS3.out; omega)).mono ?_
            rintro e w2 ⟨A3, c3, rfl, o3, b3⟩
            have b13 := below_step a1 b3 (Nat.le_refl _)
            have Kop2 := Kop.later b13
            have K11 := (Blk.new w1 29 #[.int .i64 fi, .bool fr, .slice A1 fd.length c1]).later b3
            have F2 := Kop2.four
            have F11 := K11.three
            have hz2 := b3.size
            clear F0
            go_wp2_with fail
            have m3 : Mv (fun b => b = w1.heap.size) w2 (w2.setCell ⟨w1.heap.size, 2, none⟩ (.slice A3 fd.length c3)) := Mv.setCell w2 ⟨w1.heap.size, 2, none⟩ (.slice A3 fd.length c3)
            have hz3 := m3.size
            have q3 := (q.below b13).mv m3 fun b _ h e => by have := (hq1 b h).2; subst e; omega
            have r3 := (r.below b13).mv m3 fun b _ h e => by have := (hq2 b h).2; subst e; omega
            have D3 := below_mv (below_step D1 b13 (Nat.le_refl _)) m3 (by have := HS3.out; omega) fun b h => by subst h; omega
            have Kop3 := Kop2.mv m3 (by show wr.heap.size ≠ w1.heap.size; omega)
            have K11' := K11.set_ 2 (.slice A3 fd.length c3)
            have ho3 : ∀ q, (Value.slice A3 (fd.length + 1) c3).ownBlock = some q → w1.heap.size < q ∧ q < w2.heap.size := fun q hq => by have := o3.lt q hq; have := HS3.out; omega
            have o3' := o3.mv m3 fun q hq e => by have := ho3 q hq; subst e; omega
            generalize hw3 : w2.setCell ⟨w1.heap.size, 2, none⟩ (.slice A3 fd.length c3) = w3 at *
            have hs4 : w3.heap.size = w2.heap.size := by rw [← hw3]; simp [World.setCell]
            have HW3 := Lib.hid hw3; have HS4 := Lib.hid hs4; clear hw3 hs4
            obtain ⟨Gr, hGr⟩ : ∃ G : Nat → Prop, ∀ b, G b ↔ (b = gq ∨ Fr b) := ⟨fun b => b = gq ∨ Fr b, fun _ => Iff.rfl⟩
            have E11 := Blk.three_mv (G := Gr) K11' fun h => by rcases (hGr _).1 h with h | h; · omega
                                                                · have := (hq2 _ h).2; omega
            have Eop := Kop3.four_mv (G := Gr) fun h => by rcases (hGr _).1 h with h | h; · have := hgq1.2; omega
                                                           · have := (hq2 _ h).2; omega
            have HGR := Lib.hid hGr; clear hGr F2 F11
            have d3 := below_drew w3
            have t3 := o3'.rb.take (k := fd.length) (by omega)
            rw [take_mark rfl] at t3
            refine region_mv 99 Gr (by kernel_rfl) ?_
            refine phase_mv (by kernel_rfl) 12 (Mv.refl _ _).drew [0, 1, 3, 4, 5] rfl (by kernel_rfl) ?_
            simp only [picks, nth]
            repeat (go_big_quiet_step (fail))
            refine wpQuiet_nil ?_
            refine phase_opL 2 11 rfl (by kernel_rfl) (by decide) ?_
            simp only [nth]
            go_wp2_with fail
            refine (C1.out _ _ _ _ (q3.below d3) t3.drew (Nat.le_refl _)).mono ?_
            rintro e w4 ⟨rfl, q4, m4⟩
            have hz4 := m4.size
            change w3.heap.size ≤ w4.heap.size at hz4
            have r4 := (r3.below d3).mv m4 fun b _ h e => by subst e; exact hnq h
            have M4 : Mv Gr w3 w4 := (Mv.of_new d3 Gr).trans m4 fun b _ h => (HGR.out b).2 (.inl h)
            have D4 := below_mv (below_step D3 d3 (Nat.le_refl _)) m4 (Nat.le_trans D3.size d3.size) fun b h => by subst h; exact hgq1.1
            go_wp2_with fail
            refine behind_mv M4 ?_
            refine phase_opL 6 10 rfl (by kernel_rfl) (by decide) ?_
            simp only [nth]
            go_wp2_with fail
            refine (C2.out _ _ _ _ r4 (HR.out _ D4) D4.size).mono ?_
            rintro e w5 ⟨rfl, r5, m5⟩
            have hz5 := m5.size
            have M5 : Mv Gr w3 w5 := M4.trans m5 fun b _ h => (HGR.out b).2 (.inr h)
            have q4' := q4.mono (G := fun b => (Fq b ∨ w3.heap.size ≤ b) ∧ b < w4.heap.size) fun b hb h => ⟨h, hb⟩
            have q5 := q4'.mv m5 fun b hb h e => by
              rcases h.1 with h | h
              · exact hd b h e
              · have := (hq2 b e).2; have := HS4.out; have := HS3.out; omega
            have D5 := below_mv D4 m5 D4.size fun b h => (hq2 b h).1
            have o5 := OB.mv (OB.mv (o3'.below d3) m4 fun q hq e => by have := ho3 q hq; have := hgq1.2; omega) m5 fun q hq e => by have := ho3 q hq; have := (hq2 q e).2; omega
            go_wp2_with fail
            refine behind_mv M5 ?_
            refine phase_mv (by kernel_rfl) 3 M5 [7, 8, 9, 11, 10, 12, 13] rfl (by kernel_rfl) ?_
            simp only [picks, nth]
            repeat (go_big_quiet_step (fail))
            refine wpQuiet_nil ?_
            refine phase_opL 14 2 rfl (by kernel_rfl) (by decide) ?_
            simp only [nth]
            go_wp2_with fail
            refine (Kept_any _ o5.rb (HR.out _ D5)).mono ?_
            rintro e _ ⟨he, rfl⟩
            have hkk : (fd == fd && (77 : UInt8) == 77) = true := by simp
            rw [hkk] at he
            subst he
            go_wp2_with fail
            refine behind_mv M5 ?_
            refine phase_mv (by kernel_rfl) 0 M5 [15, 16] rfl (by kernel_rfl) ?_
            simp only [picks, nth]
            repeat (go_big_quiet_step (fail))
            refine wpQuiet_nil ?_
            refine phase_endL (by kernel_rfl) ?_
            have K5 := Blk.mv K11' M5 fun h => by rcases (HGR.out _).1 h with h | h; · omega
                                                  · have := (hq2 _ h).2; omega
            have F5 := Blk.three K5
            have o5t := o5.take (k := fd.length) (by omega)
            rw [take_mark rfl] at o5t
            go_wp2_with fail
            refine (Spoil_any _ o5t (by omega) (by have := HS3.out; have := HS4.out; have := HS3.out; omega)).mono ?_
            rintro e w6 ⟨rfl, b6, g6⟩
            have hz6 := g6.size
            have M6 := Mv.of_grown g6
            have own6 : ∀ b, some b = (Value.slice A3 fd.length c3).ownBlock → w1.heap.size < b ∧ b < w2.heap.size := fun b e => ho3 b (by cases A3 <;> simpa [Value.ownBlock] using e.symm)
            have D6 : Below W.heap.size W w6 := D5.trans (b6.mono (by have := HS3.out; omega))
            go_wp2_with fail
            go_meet
            have P := HPF.out
            refine ⟨gq, pL, pl, ps, rfl, inv_mk (q5.mv M6 fun b _ h e => ?_) (r5.mv M6 fun b _ h e => ?_) (fun b _ h h' => ?_) (fun b _ h => ?_) (fun b _ h => ?_) P.1 P.2.1 P.2.2.1 P.2.2.2 D6⟩
            · have := own6 b e
              rcases h.1 with h | h
              · have := (hq1 b h).2; omega
              · have := HS4.out; have := HS3.out; omega
            · have := own6 b e
              rcases h with h | h
              · have := (hq2 b h).2; omega
              · have := HS4.out; have := HS3.out; omega
            · obtain ⟨h, hlt4⟩ := h
              rcases h' with h' | h'
              · rcases h with h | h
                · exact hd b h h'
                · have := (hq2 b h').2; have := HS4.out; have := HS3.out; omega
              · omega
            · rcases h.1 with h | h
              · exact (hq1 b h).1
              · have := HS4.out; have := HS3.out; omega
            · rcases h with h | h
              · exact (hq2 b h).1
              · have := HS4.out; have := HS3.out; omega
          · have t0 : (z == 0) = false := by simpa using z0
            have t1 : (z == 1) = false := by simpa using z1
            have t2 : (z == 2) = false := by simpa using z2
            have t3 : (z == 3) = false := by simpa using z3
            have hd8 := Lib.hid (fun f (h : f ∈ Can.orderS L) => hsml f (order_check f h))
            go_wp2_with fail
            refine (Copy_any _ q hr1 hd8.out (by have := HOL.out; omega)).mono ?_
            rintro e w2 ⟨g', rfl, qc, b2⟩
            have hz2 := b2.size
            go_wp2_with fail
            refine (Put_ign _ (q.below b2) hr1 hr2 (by have := HOL.out; omega) hlo (by omega)).mono ?_
            rintro e w3 ⟨v, f, tl, lo', sp', rfl, q3, m3⟩
            have qc3 := qc.mv m3 fun b _ h e => by subst e; have := hgq1.2; omega
            have r3 := (r.below b2).mv m3 fun b _ h e => by subst e; exact hnq h
            have D3 := below_mv (below_step D1 b2 (Nat.le_refl _)) m3 (Nat.le_trans hszW hz2) fun b h => by subst h; exact hgq1.1
            have hz3 := m3.size
            go_wp2_with fail
            refine (Take_any _ _ q3).mono ?_
            rintro e w4 ⟨A4, n4, c4, rfl, rb4, q4, m4⟩
            have qc4 := qc3.mv m4 fun b _ h e => by subst e; have := hgq1.2; omega
            have r4 := r3.mv m4 fun b _ h e => by subst e; exact hnq h
            have D4 := below_mv D3 m4 (by omega) fun b h => by subst h; exact hgq1.1
            have hz4 := m4.size
            go_wp2_with fail
            refine (Spilt_any _ q4).mono ?_
            rintro e w5 ⟨rfl, q5, m5⟩
            have qc5 := qc4.mv m5 fun b _ h e => by subst e; have := hgq1.2; omega
            have r5 := r4.mv m5 fun b _ h e => by subst e; exact hnq h
            have D5 := below_mv D4 m5 (by omega) fun b h => by subst h; exact hgq1.1
            go_wp2_with fail
            go_meet
            exact ⟨g', L, lost, sp, rfl, inv_mk qc5 r5 (fun b _ h h' => by have := (hq2 b h').2; omega) (fun b _ h => by omega) (fun b _ h => (hq2 b h).1) hsml hlo (by omega) hlen D5⟩
        case rest =>
          obtain ⟨gq, L, lost, sp, rfl, I⟩ := hcut
          obtain ⟨⟨Fq, Fr, q, r, hd, hq1, hq2⟩, hsml, hlo, hhi, hlen, hbl⟩ := id I
          have hol := order_len L
          have hd8 := Lib.hid (fun f (h : f ∈ Can.orderS L) => hsml f (order_check f h))
          have C1 := Lib.hid (ListD_any wc q hd8.out (by omega))
          have C2 := Lib.hid (fun (w : World) (r : RQ w Fr gr room L lost sp) => RList_any w r (by omega))
          have hroom3 : L.length ≤ 64 := by omega
          have hgrlt := (hq2 gr r.1).2
          rw [hol] at C1
          generalize hos : Can.orderS L = os at *
          have HOL := Lib.hid hol; have HOS := Lib.hid hos; clear hol hos
          go_wp2_with fail
          refine (C1.out).mono ?_
          rintro e w2 ⟨AL, cL, rfl, oL, b2⟩
          have r2 := r.below b2
          have q2 := q.below b2
          obtain ⟨_, Ar, cr, Kr, _⟩ := id r2
          have Gr2 := Kr.four4
          go_wp2_with fail
          refine region_later (by kernel_rfl) ?_
          refine phase_later (by kernel_rfl) 22 (below_drew _) [0, 1] rfl (by kernel_rfl) ?_
          simp only [picks, nth]
          repeat (go_big_quiet_step (fail))
          refine wpQuiet_nil ?_
          refine phase_op 2 21 rfl (by kernel_rfl) (by decide) ?_
          simp only [nth]
          go_wp2_with fail
          refine (C2.out _ (r2.below (below_drew w2))).mono ?_
          rintro e w3 ⟨A3, c3, rfl, f3, b3⟩
          have b23 := below_step (below_drew w2) b3 (Nat.le_refl _)
          go_wp2_with fail
          refine behind_later b23 ?_
          refine phase_op 3 20 rfl (by kernel_rfl) (by decide) ?_
          simp only [nth]
          go_wp2_with fail
          refine (All_any w3 (oL.below b23).ofs.rf f3 (Nat.le_refl _) (Nat.le_refl _)).mono ?_
          rintro e w4 ⟨rfl, b4⟩
          have b24 := below_step b23 b4 (Nat.le_refl _)
          have Kr4 := Kr.later b24
          have G4 := Kr4.four4
          go_wp2_with fail
          refine behind_later b4 ?_
          refine phase_later (by kernel_rfl) 12 (Below.refl _ _) [4, 5, 6, 8, 9, 10, 11, 12] rfl (by kernel_rfl) ?_
          simp only [picks, nth]
          repeat (go_big_quiet_step (fail))
          refine wpQuiet_nil ?_
          refine phase_op 7 11 rfl (by kernel_rfl) (by decide) ?_
          simp only [nth]
          go_wp2_with fail
          refine (Len_any _ (q2.below b24)).mono ?_
          rintro e _ ⟨rfl, rfl⟩
          have hlen2 : ((os.length : Int) != (L.length : Int)) = false := by rw [bne_eq_false_iff_eq, HOL.out]
          have hlo2 : (lost != lost) = false := by simp
          go_wp2_with fail
          refine behind_later (Below.refl _ _) ?_
          refine phase_later (by kernel_rfl) 3 (Below.refl _ _) [13, 14, 15, 16, 18, 19, 20, 21] rfl (by kernel_rfl) ?_
          simp only [picks, nth]
          repeat (go_big_quiet_step (fail))
          refine wpQuiet_nil ?_
          refine phase_op 17 2 rfl (by kernel_rfl) (by decide) ?_
          simp only [nth]
          go_wp2_with fail
          refine (Lost_any _ (q2.below b24)).mono ?_
          rintro e _ ⟨rfl, rfl⟩
          go_wp2_with fail
          refine behind_later (Below.refl _ _) ?_
          refine phase_later (by kernel_rfl) 0 (Below.refl _ _) [22, 23] rfl (by kernel_rfl) ?_
          simp only [picks, nth]
          repeat (go_big_quiet_step (fail))
          refine wpQuiet_nil ?_
          refine phase_end (by kernel_rfl) ?_
          have b25 := below_step b2 b24 (Nat.le_refl _)
          have oL4 := oL.below b24
          generalize w2.heap.size = m2 at *
          obtain ⟨xs, hx1, hx2, hx3, hx4⟩ := oL4
          have hxl := hx1.1
          obtain ⟨wo, rfl⟩ : ∃ wo : World, wo = w4 := ⟨_, rfl⟩
          clear G4 Gr2 hlen2 hlo2
          go_wp2_with fail
          go_loopw [18] (fun v wi => ∃ (j : Nat) (ys : List Value), j ≤ L.length ∧ v = .int .i64 j ∧ Below wc.heap.size wc wi ∧ OV wi wc.heap.size 29 3 AL L.length cL ys ∧ (∀ i u, j ≤ i → xs[i * 3 + 2]? = some u → ys[i * 3 + 2]? = some u) ∧
            (∀ i, j ≤ i → i < L.length → ∃ A2 n2 c2 l2, xs[i * 3 + 2]? = some (.slice A2 n2 c2) ∧ OB wi wc.heap.size A2 n2 c2 l2 ∧ n2 ≤ 8)) (fun v _ => L.length - (intOf v).toNat)
          case atStart =>
            refine ⟨0, xs, by omega, rfl, b25, hx1, fun i u _ h => h, fun i _ hi => ?_⟩
            have hio : i < os.length := by rw [HOL.out]; exact hi
            obtain ⟨A2, n2, c2, e, hb⟩ := hx2.2 i _ (List.getElem?_eq_getElem hio)
            refine ⟨A2, n2, c2, _, ?_, hb, ?_⟩
            · have e0 : ((xs.drop (i * 3)).take 3)[2]? = xs[i * 3 + 2]? := by rw [List.getElem?_take, if_pos (by omega), List.getElem?_drop]
              rw [e] at e0
              simpa using e0.symm
            · rw [← hb.rb.len]
              exact hd8.out _ (List.getElem_mem hio)
          case round =>
            obtain ⟨j, ys, hj, rfl, bi, hy1, hy2, hy3⟩ := hrel
            by_cases hjl : j < L.length
            · obtain ⟨A2, n2, c2, l2, ex, ob, hn2⟩ := hy3 j (Nat.le_refl _) hjl
              have ey := hy2 j _ (Nat.le_refl _) ex
              obtain ⟨gL, rfl, hgL1, hgL2⟩ := hy1.head (by omega)
              have hcell : wr.cell? ⟨gL, j * 3 + 2, none⟩ = some (.slice A2 n2 c2) := by
                obtain ⟨_, _, e1, _, hc⟩ := hy1.rv.at_ (by omega)
                injection e1 with e1
                injection e1 with e1 e2
                subst e1 e2
                have := hc _ _ ey
                rwa [Nat.zero_add] at this
              have HY2 := Lib.hid hy2; have HY3 := Lib.hid hy3; have EX := Lib.hid ex
              clear hy2 hy3 ey ex
              go_wp2_with fail
              refine (Spoil_any _ ob (by omega) bi.size).mono ?_
              rintro e w5 ⟨rfl, b5, g5⟩
              have hy5 := OV.kept hy1 g5 (own_own_ne ob hy1 (by decide))
              have hyl := hy1.1
              have hf5 := hy5.free (j * 3)
              obtain ⟨u0, hu0⟩ : ∃ u, ys[j * 3]? = some u := ⟨_, List.getElem?_eq_getElem (show j * 3 < ys.length by omega)⟩
              have hc5 : w5.cell? ⟨gL, j * 3, none⟩ = some u0 := by
                obtain ⟨_, _, e1, _, hc⟩ := hy5.rv.at_ (by omega)
                injection e1 with e1
                injection e1 with e1 e2
                subst e1 e2
                have := hc _ _ hu0
                rwa [Nat.zero_add] at this
              have HU0 := Lib.hid hu0; clear hu0 hcell
              go_wp2_with fail
              go_roundw
              case rel =>
                have S := hy5.set (j * 3) (.int .i64 99)
                refine ⟨j + 1, ys.set (j * 3) (.int .i64 99), by omega, by go_num, (bi.trans b5).setCell (p := ⟨gL, j * 3, none⟩) hgL1 _, S.1, fun i u hi hu => ?_, fun i hi hil => ?_⟩
                · rw [List.getElem?_set_ne (by omega)]
                  exact HY2.out i u (by omega) hu
                · obtain ⟨A6, n6, c6, l6, e6, o6, h6⟩ := HY3.out i (by omega) hil
                  refine ⟨A6, n6, c6, l6, e6, ?_, h6⟩
                  have o7 := o6.kept g5 (hx4 j i _ _ (by omega) EX.out e6)
                  exact o7.kept S.2 (own_own_ne hy5 o7 (by decide))
              case measure => simp [intOf] <;> omega
            · obtain rfl : j = L.length := by omega
              go_wp2_with fail
              go_roundw
              case rel => exact ⟨k + 1, by omega, by omega, by go_num, gq, L, lost, sp, rfl, I.later bi (Nat.le_refl _)⟩
              case measure => simp [intOf] <;> omega
      · obtain rfl : k = 80 := by omega
        go_wp2_with fail
        refine (known_any _).mono ?_
        rintro e w2 ⟨rfl, b2⟩
        go_wp2_with fail
        go_ret
        exact ⟨rfl, below_step hbel b2 (Nat.le_refl _)⟩
    · obtain rfl : k = n := by omega
      go_wp2_with fail
      refine (known_any _).mono ?_
      rintro e w2 ⟨rfl, b2⟩
      go_wp2_with fail
      go_ret
      exact ⟨rfl, below_step hbel b2 (Nat.le_refl _)⟩
end Go.Proofs.Ytmhcobhpdlpoeaa
