/-
  Texts joined: PrmRight, DicSet.
  Conditions: none.
-/
import Derived.Test.YtgkhpebhhkdgoaaGreatJ09
import Derived.Test.YtgkhpebhhkdgoaaGreatJ14
/-
  Plain law: behind a value that is let pass each PDO that was right is right.
  Conditions: none.
-/
namespace Go.Proofs.YtgkhpebhhkdgoaaGreat.Pm
set_option linter.unusedVariables false
set_option linter.unusedSimpArgs false
open Ent Dc
theorem num_other {D : Dic} {i j i' j' : Int} (b : List UInt8) (h : ¬ (i' = i ∧ j' = j)) : numS (pokeS D i j b) i' j' = numS D i' j' := by
  unfold pokeS
  cases hf : findS D.l i j with
  | none => rfl
  | some k0 =>
    dsimp only
    split
    · unfold numS
      dsimp only
      cases hf' : findS D.l i' j' with
      | none => rfl
      | some k' =>
        dsimp only
        obtain ⟨_, _, e1, e2⟩ := find_some hf
        obtain ⟨_, _, e3, e4⟩ := find_some hf'
        have hne : k0 ≠ k' := fun e => h (by subst e; exact ⟨e3.symm.trans e1, e4.symm.trans e2⟩)
        have hg : (D.v.set k0 b).getD k' [] = D.v.getD k' [] := by rw [getD_set, if_neg (fun e => hne e.1)]
        rw [hg]
    · rfl
theorem numD_other {D : Dic} {i j i' j' : Int} (b : List UInt8) (o : Int) (h : ¬ (i' = i ∧ j' = j)) : numD (pokeS D i j b) i' j' o = numD D i' j' o := by
  unfold numD
  rw [num_other b h]
theorem words_other {D : Dic} {i j x : Int} (b : List UInt8) (h : x ≠ i ∨ j < 0) : wordsS (pokeS D i j b) x = wordsS D x := by
  have h0 : ∀ m : Int, 0 ≤ m → numD (pokeS D i j b) x m 0 = numD D x m 0 := fun m hm => numD_other b 0 fun e => by omega
  unfold wordsS cntS wordsK
  rw [h0 0 (by omega)]
  exact List.map_congr_left fun m _ => by rw [h0 _ (by omega)]
theorem words_none {D : Dic} {x : Int} (h : numD D x 0 0 = 0) : wordsS D x = [] := by
  unfold wordsS cntS wordsK
  rw [h]
  rfl
theorem rpdo_other {D : Dic} {i j k : Int} (b : List UInt8) (h1 : i ≠ 5120 + k) (h2 : wordsS (pokeS D i j b) (5632 + k) = wordsS D (5632 + k)) : rpdoS (pokeS D i j b) k = rpdoS D k := by
  have e : ∀ m, numS (pokeS D i j b) (5120 + k) m = numS D (5120 + k) m := fun m => num_other b fun e => h1 e.1.symm
  unfold rpdoS numD
  rw [e 1, e 2, h2]
theorem tpdo_other {D : Dic} {i j k : Int} (b : List UInt8) (h1 : i ≠ 6144 + k) (h2 : wordsS (pokeS D i j b) (6656 + k) = wordsS D (6656 + k)) : tpdoS (pokeS D i j b) k = tpdoS D k := by
  have e : ∀ m, numS (pokeS D i j b) (6144 + k) m = numS D (6144 + k) m := fun m => num_other b fun e => h1 e.1.symm
  unfold tpdoS numD
  rw [e 1, e 2, e 3, e 5, h2]
/-- The PDO of a mapping that was emptied. -/
theorem rpdo_empty {D : Dic} {i j k : Int} (b : List UInt8) (h1 : i ≠ 5120 + k) (h2 : wordsS (pokeS D i j b) (5632 + k) = []) (h : inS D k = 0) : inS (pokeS D i j b) k = 0 := by
  have e : ∀ m, numS (pokeS D i j b) (5120 + k) m = numS D (5120 + k) m := fun m => num_other b fun e => h1 e.1.symm
  have hX : rpdoS (pokeS D i j b) k = (rpdoS D k).map fun q => (q.1, q.2.1, []) := by
    unfold rpdoS numD
    rw [e 1, e 2, h2]
    split
    · rfl
    · split <;> rfl
  unfold inS at *
  rw [hX]
  cases hr : rpdoS D k with
  | none => rfl
  | some q =>
    obtain ⟨v, t, ws⟩ := q
    rw [hr] at h
    dsimp only [Option.map] at h ⊢
    obtain ⟨p1, p2, _⟩ := Rp.check_parts h
    unfold Rp.checkS
    rw [if_neg (by simpa using p1), p2, if_neg (by decide)]
    rfl
theorem tpdo_empty {D : Dic} {i j k : Int} (b : List UInt8) (h1 : i ≠ 6144 + k) (h2 : wordsS (pokeS D i j b) (6656 + k) = []) (h : outS D k = 0) : outS (pokeS D i j b) k = 0 := by
  have e : ∀ m, numS (pokeS D i j b) (6144 + k) m = numS D (6144 + k) m := fun m => num_other b fun e => h1 e.1.symm
  have hX : tpdoS (pokeS D i j b) k = (tpdoS D k).map fun q => (q.1, q.2.1, q.2.2.1, q.2.2.2.1, []) := by
    unfold tpdoS numD
    rw [e 1, e 2, e 3, e 5, h2]
    split
    · rfl
    · split <;> rfl
  unfold outS at *
  rw [hX]
  cases hr : tpdoS D k with
  | none => rfl
  | some q =>
    obtain ⟨v, t, inh, ev, ws⟩ := q
    rw [hr] at h
    dsimp only [Option.map] at h ⊢
    obtain ⟨p1, p2, _⟩ := Tp.check_parts h
    unfold Tp.checkS
    rw [if_neg (by simpa using p1), p2, if_neg (by decide)]
    rfl
theorem in_same {D : Dic} {i j k : Int} {b : List UInt8} (h : rpdoS (pokeS D i j b) k = rpdoS D k) : inS (pokeS D i j b) k = inS D k := by
  unfold inS
  rw [h, poke_l]
theorem out_same {D : Dic} {i j k : Int} {b : List UInt8} (h : tpdoS (pokeS D i j b) k = tpdoS D k) : outS (pokeS D i j b) k = outS D k := by
  unfold outS
  rw [h, poke_l]
theorem mapped_parts {D X : Dic} {i j ahead pdo : Int} (h : mappedS D X i j ahead pdo = 0) : (0 < j ∧ numD D i 0 0 = 0) ∨ (j ≤ 0 ∧ (numD X i j 0 = 0 ∨ pdo = 0)) := by
  unfold mappedS at h
  by_cases hj : 0 < j
  · rw [if_pos hj] at h
    left
    refine ⟨hj, ?_⟩
    split at h
    · simp at h
    · rename_i hn; simpa using hn
  · rw [if_neg hj] at h
    right
    refine ⟨by omega, ?_⟩
    split at h
    · rename_i hz; exact .inl hz
    · split at h
      · simp at h
      · split at h
        · simp at h
        · exact .inr h
theorem ask_5120 {D X : Dic} {i j : Int} (h : 5120 ≤ i ∧ i ≤ 5123) : askS D X i j = some (inS X (i - 5120)) := by
  unfold askS
  rw [if_neg (by omega), if_neg (by omega), if_neg (by omega), if_pos h]
theorem ask_6144 {D X : Dic} {i j : Int} (h : 6144 ≤ i ∧ i ≤ 6147) : askS D X i j = some (outS X (i - 6144)) := by
  unfold askS
  rw [if_neg (by omega), if_neg (by omega), if_neg (by omega), if_neg (by omega), if_pos h]
theorem ask_5632 {D X : Dic} {i j : Int} (h : 5632 ≤ i ∧ i ≤ 5635) : askS D X i j = some (mappedS D X i j 512 (inS X (i - 5632))) := by
  unfold askS
  rw [if_neg (by omega), if_neg (by omega), if_neg (by omega), if_neg (by omega), if_neg (by omega), if_pos h]
theorem ask_6656 {D X : Dic} {i j : Int} (h : 6656 ≤ i ∧ i ≤ 6659) : askS D X i j = some (mappedS D X i j 512 (outS X (i - 6656))) := by
  unfold askS
  rw [if_neg (by omega), if_neg (by omega), if_neg (by omega), if_neg (by omega), if_neg (by omega), if_neg (by omega), if_pos h]
/-- The law. -/
theorem stays {D : Dic} {i j : Int} {b : List UInt8} (h : Guards D i j b 0) : mayS D.l false i j b = 0 ∧ ∀ k, 0 ≤ k → k < 4 → (inS D k = 0 → inS (pokeS D i j b) k = 0) ∧ (outS D k = 0 → outS (pokeS D i j b) k = 0) := by
  unfold Guards at h
  by_cases hm : mayS D.l false i j b = 0
  case neg =>
    rw [if_pos hm] at h
    exact absurd h.symm hm
  rw [if_neg (by simpa using hm)] at h
  refine ⟨hm, fun k hk0 hk4 => ⟨fun hin => ?_, fun hout => ?_⟩⟩
  · by_cases h1 : i = 5120 + k
    · have := h _ (ask_5120 (by omega))
      rw [show i - 5120 = k by omega] at this
      exact this.symm
    · by_cases h2 : i = 5632 + k
      · have h3 := h _ (ask_5632 (by omega))
        rw [show i - 5632 = k by omega] at h3
        rcases mapped_parts h3.symm with ⟨hj, hn⟩ | ⟨hj, hn | hn⟩
        · have hw : wordsS (pokeS D i j b) (5632 + k) = [] := words_none (by rw [numD_other b 0 (fun e => by omega), ← h2]; exact hn)
          exact rpdo_empty b h1 hw hin
        · by_cases hj0 : j = 0
          · subst hj0
            exact rpdo_empty b h1 (words_none (by rw [← h2]; exact hn)) hin
          · rw [in_same (rpdo_other b h1 (words_other b (.inr (by omega))))]
            exact hin
        · exact hn
      · rw [in_same (rpdo_other b h1 (words_other b (.inl (Ne.symm h2))))]
        exact hin
  · by_cases h1 : i = 6144 + k
    · have := h _ (ask_6144 (by omega))
      rw [show i - 6144 = k by omega] at this
      exact this.symm
    · by_cases h2 : i = 6656 + k
      · have h3 := h _ (ask_6656 (by omega))
        rw [show i - 6656 = k by omega] at h3
        rcases mapped_parts h3.symm with ⟨hj, hn⟩ | ⟨hj, hn | hn⟩
        · have hw : wordsS (pokeS D i j b) (6656 + k) = [] := words_none (by rw [numD_other b 0 (fun e => by omega), ← h2]; exact hn)
          exact tpdo_empty b h1 hw hout
        · by_cases hj0 : j = 0
          · subst hj0
            exact tpdo_empty b h1 (words_none (by rw [← h2]; exact hn)) hout
          · rw [out_same (tpdo_other b h1 (words_other b (.inr (by omega))))]
            exact hout
        · exact hn
      · rw [out_same (tpdo_other b h1 (words_other b (.inl (Ne.symm h2))))]
        exact hout
end Go.Proofs.YtgkhpebhhkdgoaaGreat.Pm
/-
  Walk: Set of layer 15, of a value that may be set.
  Conditions: none.
-/
namespace Go.Proofs.YtgkhpebhhkdgoaaGreat
set_option linter.unusedVariables false
set_option linter.unusedSimpArgs false
open Go.RowKit
set_option maxRecDepth 100000 in
set_option maxHeartbeats 4000000 in
theorem dputs_any {F : Nat → Prop} {w : World} {g gv lc vc : Nat} {la : Addr} {vA : Option Addr} {xs vs : List Value} {D : Dc.Dic} (x y : Int) {A' : Option Addr} {n' c' B : Nat} {b : List UInt8} (h : DRt 112 w F g gv (some la) lc vA vc xs vs D) (hb : RB w B A' n' c' b) (hB : B ≤ w.heap.size) (hn : n' < 140737488355328) (hm0 : Dc.mayS D.l false x y b = 0) : Calls Tryz.prog 47 #[.pointer (some ⟨g, 0, none⟩), .int .i64 x, .int .i64 y, .slice A' n' c', .bool false] w (PokeP (t := 112) D x y b w F g gv (some la) lc vA vc xs) := by
  have M := dmay_any false x y h hb hB
  have hz0 := mayP_snd D.l true x y b
  rw [← mayP_snd] at hm0
  obtain ⟨k, hf⟩ : ∃ k, Dc.findS D.l x y = some k := by
    cases hf : Dc.findS D.l x y with
    | some k => exact ⟨k, rfl⟩
    | none =>
      unfold mayP at hm0
      rw [hf] at hm0
      dsimp only at hm0
      split at hm0 <;> simp at hm0
  have hk := (Dc.find_some hf).2.1
  have hm : mayP D.l true x y b = ((k : Int), Ent.valS (D.l.getD k Dc.en0) b) := by unfold mayP; rw [hf]; simp
  have hmf : mayP D.l false x y b = ((k : Int), 0) ∧ Ent.valS (D.l.getD k Dc.en0) b = 0 := by
    unfold mayP at hm0 ⊢
    rw [hf] at hm0 ⊢
    dsimp only at hm0 ⊢
    split at hm0
    · rename_i hw; exact absurd hm0 hw.2
    · rename_i hw; rw [if_neg hw, hm0]; exact ⟨rfl, rfl⟩
  obtain ⟨hmf, hv⟩ := hmf
  rw [hmf] at M
  rw [hm] at hz0
  dsimp only at M hz0
  have hp : Dc.pokeS D x y b = ⟨D.l, D.v.set k b⟩ := by unfold Dc.pokeS; rw [hf]; dsimp only; rw [if_pos hv]
  rw [hv] at hz0
  replace M := Lib.hid M
  have HP := Lib.hid hp; have HZ := Lib.hid hz0
  clear hp hz0 hv hf hm hm0 hmf
  obtain ⟨t0, t1⟩ := h.two
  obtain ⟨A, n, c, hA, hF, hg, hr, hcell, hfr⟩ := h.value hk
  subst hA
  have hcap : D.l.length ≤ vc ∧ vc ≤ 9223372036854775807 := ⟨h.own.rv.le, h.own.rv.cap⟩
  have HC := Lib.hid hcap
  have hgl := h.blk.lt
  have HM : Hid (∀ {w1 : World} {n c : Nat} {A : Option Addr}, Below w.heap.size w w1 → OB w1 w.heap.size A n c b → DRt 112 (w1.setCell ⟨gv, k, none⟩ (.slice A n c)) (fun q => F q ∨ (w.heap.size ≤ q ∧ q < w1.heap.size)) g gv (some la) lc (some ⟨gv, 0, none⟩) vc xs (vs.set k (.slice A n c)) ⟨D.l, D.v.set k b⟩) := Lib.hid fun h1 h2 => h.put hk h1 h2
  clear hcap hr h
  generalize hmm : D.l.length = m at *
  have HMM := Lib.hid hmm
  clear hmm
  go_enter Tryz.func47, Tryz.ntmps47
  go_wp2_with fail
  refine (M.out).mono ?_
  rintro e w1 ⟨rfl, b1⟩
  have OWN := Lib.hid (down_any w1.drew (hb.below (b1.drew.mono hB)) hn (Nat.le_trans hB b1.drew.size))
  have t1' : w1.cell? ⟨g, 1, none⟩ = _ := (b1.cell (p := ⟨g, 1, none⟩) hgl).trans t1
  have T1 := cell_regrown t1'
  have i0 : (0 : Int) ≤ (k : Int) := by omega
  have i1 : (k : Int) < (m : Int) := by omega
  clear t0 t1 t1'
  go_wp2_with fail
  refine region_laterL 8 (by kernel_rfl) ?_
  refine phase_laterL (by kernel_rfl) 3 (below_drew _) [0, 4, 5, 1, 2, 3] rfl (by kernel_rfl) ?_
  simp only [picks, nth]
  repeat (go_big_quiet_step (fail))
  refine wpQuiet_nil ?_
  refine phase_opL 6 2 rfl (by kernel_rfl) (by decide) ?_
  simp only [nth]
  go_wp2_with fail
  refine (OWN.out).mono ?_
  rintro e w3 ⟨A3, c3, rfl, o3, b3⟩
  have b3' : Below w1.heap.size w1 w3 := (below_drew w1).trans b3
  go_wp2_with fail
  refine behind_laterL b3' ?_
  refine phase_laterL (by kernel_rfl) 1 (Below.refl _ _) [7] rfl (by kernel_rfl) ?_
  simp only [picks, nth]
  repeat (go_big_quiet_step (fail))
  refine wpQuiet_nil ?_
  have d3 := below_step b1 b3' (Nat.le_refl _)
  have e3 := (d3.cell (p := ⟨gv, k, none⟩) hg).trans hcell
  have f3 := (d3.frozen (p := ⟨gv, k, none⟩) hg).trans hfr
  refine phase_last 0 rfl (by kernel_rfl) (by decide) (by kernel_rfl) ?_
  simp only [nth]
  go_wp2_with fail
  refine behind_last ?_
  go_wp2_with fail
  go_ret
  have o3' : OB w3 w.heap.size A3 n' c3 b := o3.more b1.drew.size
  have hput := HM.out (w1 := w3) d3 o3'
  have M2 : Mv (fun q => q = gv) w (w3.setCell ⟨gv, k, none⟩ (.slice A3 n' c3)) := (Mv.of_new d3 _).trans (Mv.setCell w3 ⟨gv, k, none⟩ (.slice A3 n' c3)) fun b _ h => h
  refine ⟨by rw [← HZ.out]; rfl, M2, vs.set k (.slice A3 n' c3), ?_⟩
  rw [HP.out]
  exact hput.mono fun q hq hf => by
    rcases hf with hf | hf
    · exact .inl hf
    · exact .inr ⟨hf.1, by simpa [World.setCell] using hf.2⟩
set_option maxHeartbeats 1000000 in
theorem dSet_any {F : Nat → Prop} {w : World} {g gv lc vc : Nat} {la : Addr} {vA : Option Addr} {xs vs : List Value} {D : Dc.Dic} (x y : Int) {A' : Option Addr} {n' c' B : Nat} {b : List UInt8} (h : DRt 112 w F g gv (some la) lc vA vc xs vs D) (hb : RB w B A' n' c' b) (hB : B ≤ w.heap.size) (hn : n' < 140737488355328) (hm0 : Dc.mayS D.l false x y b = 0) : Calls Tryz.prog 15 #[.pointer (some ⟨g, 0, none⟩), .int .i64 x, .int .i64 y, .slice A' n' c'] w (PokeP (t := 112) D x y b w F g gv (some la) lc vA vc xs) := by
  have M := Lib.hid (dputs_any x y h hb hB hn hm0)
  clear h hb hm0
  go_enter Tryz.func15, Tryz.ntmps15
  go_wp2_with fail
  refine (M.out).mono ?_
  rintro e w1 ⟨rfl, h1, vs', h2⟩
  go_wp2_with fail
  go_ret
  exact ⟨rfl, h1, vs', h2⟩
theorem One.set {F : Nat → Prop} {w : World} {base g n c B : Nat} {A : Option Addr} {b : List UInt8} {D : Dc.Dic} (h : One 112 w base g F D) (hbase : base ≤ w.heap.size) (x y : Int) (hb : RB w B A n c b) (hB : B ≤ w.heap.size) (hn : n < 140737488355328) (hm0 : Dc.mayS D.l false x y b = 0) :
    Calls Tryz.prog 15 #[.pointer (some ⟨g, 0, none⟩), .int .i64 x, .int .i64 y, .slice A n c] w fun e w' => e = .returned (.int .u32 0) ∧ Mv F w w' ∧ Below base w w' ∧ One 112 w' base g (fun q => F q ∨ (w.heap.size ≤ q ∧ q < w'.heap.size)) (Dc.pokeS D x y b) := by
  have ht : Dc.mayS D.l true x y b = 0 := by
    rw [← mayP_snd] at hm0 ⊢
    unfold mayP at hm0 ⊢
    cases hf : Dc.findS D.l x y with
    | none => rw [hf] at hm0; exact hm0
    | some k =>
      rw [hf] at hm0
      dsimp only at hm0 ⊢
      split at hm0
      · rename_i hw; exact absurd hm0 hw.2
      · rw [if_neg (by simp)]; exact hm0
  obtain ⟨gv, lc, vc, la, vA, xs, vs, h1, h2⟩ := h
  obtain ⟨gv2, h3, h4⟩ := h1.fix
  refine (dSet_any x y h3 hb hB hn hm0).mono ?_
  rintro e w' ⟨he, hm, vs', hd⟩
  rw [ht] at he
  have hm' : Mv F w w' := hm.mono fun q hq e => by
    rcases h4 with h4 | h4
    · rw [e]; exact h4
    · omega
  have hlow : base ≤ gv2 := by
    rcases h4 with h4 | h4
    · exact (h2 _ h4).1
    · omega
  refine ⟨he, hm', hm.below hbase fun q e => by subst e; exact hlow, gv2, lc, vc, la, vA, xs, vs', hd, fun q hq => ?_⟩
  have hz := hm.size
  rcases hq with hq | hq
  · have := h2 q hq; omega
  · omega
end Go.Proofs.YtgkhpebhhkdgoaaGreat
