/-
  Walk: BitsPacks.
  Conditions: none.
-/
import Derived.Test.YtecgahhdbhdplaaBitRUnp
import Derived.Test.YtecgahhdbhdplaaBitKnown
import Derived.Test.YtecgahhdbhdplaaFrame
namespace Go.Proofs.Ytecgahhdbhdplaa
set_option linter.unusedVariables false
set_option linter.unusedSimpArgs false
open Go.ChangeShapes Go.WideShapes Go.ChangeAt Go.RowKit
theorem unpK_small {b : List UInt8} {ws : List Int} (h : ∀ i, i < ws.length → Bt.okW (ws.getD i 0) = true) : ∀ k, k ≤ ws.length → ∀ f ∈ Bt.unpK b ws k, f.data.length ≤ 8
  | 0, _, f, hf => by cases hf
  | k + 1, hk, f, hf => by
    rw [Bt.unpK, List.mem_append] at hf
    rcases hf with hf | hf
    · exact unpK_small h k (by omega) f hf
    · have hf := List.mem_singleton.1 hf
      subst hf
      have h1 := Bt.okW_iff.1 (h k (by omega))
      have := Bt.bytesS_pos h1.1 h1.2
      show (Oct.lb _ _).length ≤ 8
      rw [Oct.lb_length]
      omega
theorem unp_small (b : List UInt8) (ws : List Int) : ∀ f ∈ (Bt.unpackS b ws).1, f.data.length ≤ 8 := by
  intro f hf
  unfold Bt.unpackS at hf
  split at hf
  · rename_i h0
    split at hf
    · cases hf
    · obtain ⟨h1, _⟩ := tot_inv (z := (Bt.totS ws (ws.map Bt.okW)).1) (by rw [← h0])
      exact unpK_small (fun i hi => by have := h1 i (by simpa using hi); rwa [Bt.okW_getD] at this) _ (Nat.le_refl _) f hf
  · cases hf
theorem unp_len (b : List UInt8) (ws : List Int) : (Bt.unpackS b ws).1.length ≤ ws.length := by
  unfold Bt.unpackS
  split
  · split
    · simp
    · dsimp only
      rw [Bt.unpK_length]
      exact Nat.le_refl _
  · simp
theorem packS_small (fs : List Bt.Fld) : (Bt.packS fs).1.length ≤ 8 := by
  unfold Bt.packS
  split
  · rename_i h0
    obtain ⟨_, h2, h3⟩ := tot_inv (z := (Bt.totS (Bt.bitsOf fs) (fs.map Bt.okF)).1) (by rw [← h0])
    dsimp only
    rw [Bt.packK_length, List.length_replicate]
    unfold Bt.bytesS
    split <;> omega
  · simp
/-- The cells of a field whose bytes may be written to. -/
def FlB (w : World) (base : Nat) (f : Bt.Fld) (cs : List Value) : Prop := ∃ A n c, cs = [.int .i64 f.bits, .slice A n c] ∧ WB w base A n c ∧ n ≤ 8
theorem FlB.sp {w w' : World} {base : Nat} {f : Bt.Fld} {cs : List Value} (k : SpU w w') (h : FlB w base f cs) : FlB w' base f cs := by
  obtain ⟨A, n, c, h1, h2, h3⟩ := h
  exact ⟨A, n, c, h1, h2.sp k, h3⟩
/-- Fields whose bytes may be written to. -/
def OFB (w : World) (base : Nat) (A : Option Addr) (n c : Nat) (fs : List Bt.Fld) : Prop := ∃ xs, OV w base 51 2 A n c xs ∧ Rows (FlB w base) 2 fs xs
theorem OFB.sp {w w' : World} {base n c : Nat} {A : Option Addr} {fs : List Bt.Fld} (h : OFB w base A n c fs) (k : SpU w w') : OFB w' base A n c fs := by
  obtain ⟨xs, h1, h2⟩ := h
  exact ⟨xs, h1.sp k (by decide), h2.imp fun _ _ hf => hf.sp k⟩
theorem OFB.at_ {w : World} {base n c : Nat} {A : Option Addr} {fs : List Bt.Fld} (h : OFB w base A n c fs) {i : Nat} (hi : i < n) : ∃ b A' n' c', A = some ⟨b, 0, none⟩ ∧ b < w.heap.size ∧ w.cell? ⟨b, i * 2 + 1, none⟩ = some (.slice A' n' c') ∧ WB w base A' n' c' ∧ n' ≤ 8 := by
  obtain ⟨xs, h1, h2⟩ := h
  have hlen : fs.length = n := RS.len (R := FlB w base) ⟨xs, h1.rv, h2⟩ (by decide)
  have hf : fs[i]? = some (fs[i]'(by omega)) := List.getElem?_eq_getElem (by omega)
  obtain ⟨g, hA, hg1, hg2⟩ := OV.head h1 (by omega)
  obtain ⟨b, o, cs, hA', hb, ⟨A', n', c', rfl, hw, hn'⟩, hc⟩ := RS.at_ (R := FlB w base) ⟨xs, h1.rv, h2⟩ (by decide) hf
  rw [hA] at hA'
  injection hA' with hA'
  injection hA' with e1 e2
  subst e1 e2
  refine ⟨g, A', n', c', hA, hb, ?_, hw, hn'⟩
  have := hc 1 _ (by decide) rfl
  rwa [Nat.zero_add] at this
theorem ofb_of {w : World} {base n c : Nat} {A : Option Addr} {fs : List Bt.Fld} (h : OS (FlW w base) w base 51 2 A n c fs) (hs : ∀ f ∈ fs, f.data.length ≤ 8) : OFB w base A n c fs := by
  obtain ⟨xs, h1, h2⟩ := h
  refine ⟨xs, h1, h2.1, fun i f hf => ?_⟩
  obtain ⟨A', n', c', e, ho⟩ := h2.2 i f hf
  refine ⟨A', n', c', e, ho.wb, ?_⟩
  rw [← ho.len]
  exact hs f (List.mem_of_getElem? hf)
def PackRel (W w : World) (base base' : Nat) (A : Option Addr) (n c : Nat) (l : List UInt8) (A' : Option Addr) (n' c' : Nat) (fs : List Bt.Fld) : Prop :=
  OB w base A n c l ∧ OFB w base' A' n' c' fs ∧ Below W.heap.size W w ∧ base' ≤ w.heap.size
set_option maxRecDepth 100000 in
set_option maxHeartbeats 8000000 in
theorem BitsPacks_walk {A : Option Addr} {n c : Nat} {fs : List Bt.Fld} {A' : Option Addr} {n' c' : Nat} {bs : List UInt8} {A'' : Option Addr} {n'' c'' : Nat} {ws : List Int} (W : World)
    (h : RFl W W.heap.size W.heap.size A n c fs) (hx : ∀ f ∈ fs, (Lit.int .i64 f.bits).wf = true) (hb : RB W W.heap.size A' n' c' bs) (hi : RI W W.heap.size A'' n'' c'' ws) (hy : ∀ x ∈ ws, (Lit.int .i64 x).wf = true) :
    Calls Try.prog 4 #[.slice A n c, .slice A' n' c', .slice A'' n'' c''] W fun e w' => e = .returned (.bool true) ∧ Below W.heap.size W w' := by
  have hm : ∀ f ∈ fs, f.bits ≤ 9223372036854775807 := fun f hf => (bounds_i64 (hx f hf)).2
  have hm2 : ∀ x ∈ ws, x ≤ 9223372036854775807 := fun x hf => (bounds_i64 (hy x hf)).2
  have HM := Lib.hid hm; have HM2 := Lib.hid hm2
  clear hx hy hm hm2
  have hn' := hb.lt
  have hn'' := hi.lt
  go_enter Try.func4, Try.ntmps4
  go_wp2_with fail
  refine (light29_any _ h).mono ?_
  rintro e w0 ⟨b, rfl, rfl, hl⟩
  by_cases hno : b = true ∧ n' ≤ 5000 ∧ n'' ≤ 100
  · obtain ⟨rfl, h5, h6⟩ := hno
    obtain ⟨hn, hsm⟩ := hl rfl
    have HSM := Lib.hid hsm
    clear hl hsm
    have Gv := Lib.hid (given_any W h (by omega) (Nat.le_refl _) (Nat.le_refl _))
    go_wp2_with fail
    refine (Gv.out).mono ?_
    rintro e w1 ⟨A1, c1, rfl, g1, b1⟩
    have P1 := Pack_any w1 g1 (by omega) (Nat.le_refl _) b1.size (fun f hf => by have := HSM.out f hf; omega) HM.out
    have P2 := fun (w : World) (hw : Below W.heap.size W w) => RPack_any w (h.below hw (Nat.le_refl _)) (by omega) hw.size (Nat.le_refl _) (fun f hf => by have := HSM.out f hf; omega) HM.out
    have hps := packS_small fs
    generalize Bt.packS fs = ps at *
    obtain ⟨pv, pe⟩ := ps
    dsimp only at hps
    replace P1 := Lib.hid P1; replace P2 := Lib.hid P2
    clear Gv
    go_wp2_with fail
    refine (P1.out).mono ?_
    rintro e w2 ⟨A2, c2, rfl, o2, b2⟩
    dsimp only at o2
    have d2 := below_step b1 b2 (Nat.le_refl _)
    clear P1 g1
    go_wp2_with fail
    refine (P2.out w2 d2).mono ?_
    rintro e w3 ⟨A3, c3, rfl, o3, b3⟩
    dsimp only at o3
    have d3 := below_step d2 b3 (Nat.le_refl _)
    have L := Lib.hid (Lent_any w3 (hb.below d3) (by omega) d3.size)
    clear P2
    go_wp2_with fail
    refine (L.out).mono ?_
    rintro e w4 ⟨A4, c4, rfl, o4, b4⟩
    have d4 := below_step d3 b4 (Nat.le_refl _)
    have HX2 := Lib.hid o2.lt
    have HZ3 := Lib.hid b3.size
    have htk : (bs ++ [(77 : UInt8)]).take n' = bs := take_mark hb.len
    have r4 := o4.rb.take (k := n') (by omega)
    rw [htk] at r4
    have U1 := Unpack_any w4 r4 (hi.below d4) (by omega) (by omega) (Nat.le_refl _) d4.size HM2.out
    have U2 := fun (w : World) (hw : Below W.heap.size W w) => RUnpack_ok w (hb.below hw) (hi.below hw) (by omega) (by omega) hw.size hw.size HM2.out
    have hus := unp_small bs ws
    have hul := unp_len bs ws
    rw [hi.len] at hul
    generalize Bt.unpackS bs ws = us at *
    obtain ⟨uv, ue⟩ := us
    dsimp only at hus hul
    have HUS := Lib.hid hus
    replace U1 := Lib.hid U1; replace U2 := Lib.hid U2
    clear L hus htk r4
    go_wp2_with fail
    refine (U1.out).mono ?_
    rintro e w5 ⟨A5, c5, rfl, o5, b5⟩
    dsimp only at o5
    have d5 := below_step d4 b5 (Nat.le_refl _)
    clear U1
    go_wp2_with fail
    refine (U2.out w5 d5).mono ?_
    rintro e w6 ⟨A6, c6, rfl, o6, b6⟩
    dsimp only at o6
    have d6 := below_step d5 b6 (Nat.le_refl _)
    have b56 := b6
    have o5' := o5.below b6 (R' := FlW w6 w4.heap.size) fun _ _ hf => hf.below b6
    have p6 : RFl w6 w6.heap.size w6.heap.size A5 uv.length c5 uv := o5'.rs.imp fun _ _ hf => hf.flc
    have q6 : RFl w6 w6.heap.size w6.heap.size A6 uv.length c6 uv := o6.rs.imp fun _ _ hf => hf.flc
    have b26 := below_step (below_step (below_step b3 b4 (Nat.le_refl _)) b5 (Nat.le_refl _)) b6 (Nat.le_refl _)
    have b36 := below_step (below_step b4 b5 (Nat.le_refl _)) b6 (Nat.le_refl _)
    have b46 := below_step b5 b6 (Nat.le_refl _)
    have x6 := o2.below b26
    have y6 := o3.below b36
    have own6 := o4.below b46
    have e1 := convb x6.rb
    have e2 := convb y6.rb
    have TK := Lib.hid (taken_any w6 p6 (by omega) (Nat.le_refl _) (Nat.le_refl _))
    clear U2 o5 o6 p6 o2 o3
    go_wp2_with fail
    refine (TK.out).mono ?_
    rintro e w7 ⟨A7, c7, rfl, t7, b7⟩
    go_wp2_with fail
    refine (Same_eq w7 t7 (q6.below b7 (Nat.le_refl _))).mono ?_
    rintro e w8 ⟨rfl, kk, rfl⟩
    have b68 : Below w6.heap.size w6 (w7.drewN kk) := below_drewN b7 kk
    have x8 := x6.below b68
    have own8 := own6.below b68
    have o8 := ofb_of (o5'.below b68 (R' := FlW (w7.drewN kk) w4.heap.size) fun _ _ hf => hf.below b68) HUS.out
    have d8 := below_step d6 b68 (Nat.le_refl _)
    have HX := Lib.hid o4.lt
    have SP := Lib.hid (Spoil_wb _ x8.wb (by omega) (Nat.le_trans b2.size (Nat.le_trans b26.size b68.size)))
    have hr8 := hb.below d8
    clear b26 b36 b56 x8 x6 y6 own6 o5' q6 t7 e1 e2 TK h hi
    go_wp2_with fail
    refine (SP.out).mono ?_
    rintro e w9 ⟨rfl, b9, sp9, gr9⟩
    have own9 : OB w9 w3.heap.size A4 (n' + 1) c4 (bs ++ [77]) := by
      refine own8.kept gr9 ?_
      cases e : (Value.slice A4 (n' + 1) c4).ownBlock with
      | none => exact .inl rfl
      | some k =>
        right
        intro he
        have h1 := HX.out k e
        have h2 := HX2.out k he.symm
        have h3 := HZ3.out
        omega
    have d9 := d8.trans (b9.mono b1.size)
    have z9 : w4.heap.size ≤ w9.heap.size := Nat.le_trans (Nat.le_trans b46.size b68.size) b9.size
    have o9 := o8.sp sp9
    have PR : PackRel W w9 w3.heap.size w4.heap.size A4 (n' + 1) c4 (bs ++ [77]) A5 uv.length c5 uv := ⟨own9, o9, d9, z9⟩
    have HR := Lib.hid hb
    clear own9 own8 o9 o8 sp9 gr9 b9 d9 SP hr8 hb b46 b68
    go_wp2_with fail
    go_loopw [17] (fun i wr => ∃ k : Nat, k ≤ uv.length ∧ i = .int .i64 k ∧ PackRel W wr w3.heap.size w4.heap.size A4 (n' + 1) c4 (bs ++ [77]) A5 uv.length c5 uv) (fun i _ => uv.length - (intOf i).toNat)
    case atStart => exact ⟨0, by omega, rfl, PR⟩
    case round =>
      clear PR
      obtain ⟨k, hk, rfl, own, of, bb, hz4⟩ := hrel
      by_cases hlt : k < uv.length
      · obtain ⟨g, A7, n7, c7, rfl, hg, q1, wb, h8⟩ := of.at_ hlt
        have SP := Lib.hid (Spoil_wb wr wb (by omega) hz4)
        go_wp2_with fail
        refine (SP.out).mono ?_
        rintro e w10 ⟨rfl, b10, sp10, gr10⟩
        have own10 := own.below_of b10 fun k hk => (HX.out k hk).2
        have PR : PackRel W w10 w3.heap.size w4.heap.size A4 (n' + 1) c4 (bs ++ [77]) (some ⟨g, 0, none⟩) uv.length c5 uv := ⟨own10, of.sp sp10, bb.trans (b10.mono d4.size), Nat.le_trans hz4 b10.size⟩
        clear own10 sp10 b10 gr10 wb SP of
        go_wp2_with fail
        go_roundw
        case rel => exact ⟨k + 1, by omega, by go_num, PR⟩
        case measure => simp [intOf] <;> omega
      · obtain rfl : k = uv.length := by omega
        have KE := Kept_any _ own.rb (HR.out.below bb)
        have hll : (bs == bs && (77 : UInt8) == 77) = true := by simp
        rw [hll] at KE
        replace KE := Lib.hid KE
        clear hll own of
        go_wp2_with fail
        refine (KE.out).mono ?_
        rintro e _ ⟨rfl, rfl⟩
        go_wp2_with fail
        refine (known29_any _).mono ?_
        rintro e w5 ⟨rfl, b5⟩
        go_wp2_with fail
        go_ret
        exact ⟨rfl, below_step bb b5 (Nat.le_refl _)⟩
  · clear hl
    rcases (show b = false ∨ (b = true ∧ 5000 < n') ∨ (b = true ∧ n' ≤ 5000 ∧ 100 < n'') by
      cases b with
      | false => exact .inl rfl
      | true =>
        right
        by_cases h5 : n' ≤ 5000
        · exact .inr ⟨rfl, h5, by have : ¬ n'' ≤ 100 := fun h => hno ⟨rfl, h5, h⟩; omega⟩
        · exact .inl ⟨rfl, by omega⟩) with rfl | ⟨rfl, h5⟩ | ⟨rfl, h5, h6⟩
    all_goals
      clear hno
      go_wp2_with fail
      refine (known29_any _).mono ?_
      rintro e w2 ⟨rfl, b2⟩
      go_wp2_with fail
      go_ret
      exact ⟨rfl, b2⟩
end Go.Proofs.Ytecgahhdbhdplaa
