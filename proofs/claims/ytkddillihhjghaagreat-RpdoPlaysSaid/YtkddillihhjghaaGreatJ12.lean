/-
  Texts joined: BitRefPut, BitPack, BitUnp, DicNwM, ValOwn.
  Conditions: none.
-/
import Derived.Test.YtkddillihhjghaaGreatJ05
import Derived.Test.YtkddillihhjghaaGreatJ06
import Derived.Test.YtkddillihhjghaaGreatJ11
/-
  Walks: the reference's Put of bits.
  Conditions: none.
-/
namespace Go.Proofs.YtkddillihhjghaaGreat
set_option linter.unusedVariables false
set_option linter.unusedSimpArgs false
open Go.RowKit
theorem two_steps : ∀ j, j < 8 → ∀ c, c < 256 → ((c &&& (255 - 2 ^ j)) ||| 2 ^ j) = (c ||| 2 ^ j) := by decide +kernel
theorem sb_twice (c : UInt8) (j : Nat) (hj : j < 8) : Bt.sb (Bt.sb c j false) j true = Bt.sb c j true := by
  have hc := c.toNat_lt
  have ho : c.toNat &&& (255 - 2 ^ j) < 256 := Nat.lt_of_le_of_lt Nat.and_le_left hc
  have e : (Bt.sb c j false).toNat = c.toNat &&& (255 - 2 ^ j) := by
    rw [Bt.sb, if_neg (by decide), UInt8.toNat_ofNat', Nat.mod_eq_of_lt (by simpa using ho)]
  rw [Bt.sb, if_pos rfl, e, two_steps j hj _ hc, Bt.sb, if_pos rfl]
theorem setB_twice (l : List UInt8) (i : Nat) : Bt.setB (Bt.setB l i false) i true = Bt.setB l i true := by
  unfold Bt.setB
  by_cases h : i / 8 < l.length
  · have e : (l.set (i / 8) (Bt.sb (l.getD (i / 8) 0) (i % 8) false)).getD (i / 8) 0 = Bt.sb (l.getD (i / 8) 0) (i % 8) false := by simp [List.getD, h]
    rw [e, sb_twice _ _ (Nat.mod_lt _ (by decide)), List.set_set]
  · have e : ∀ x, l.set (i / 8) x = l := fun x => List.set_eq_of_length_le (by omega)
    simp only [e]
theorem test_mod (v k : Nat) : (((v / 2 ^ k : Nat) : Int).tmod 2 == 1) = v.testBit k := by
  rw [Nat.testBit_eq_decide_div_mod_eq, Int.tmod_eq_emod_of_nonneg (Int.natCast_nonneg _), Bool.eq_iff_iff]
  simp only [beq_iff_eq, decide_eq_true_eq]
  generalize v / 2 ^ k = y
  omega
theorem test_emod (v k : Nat) : (((v / 2 ^ k : Nat) : Int) % 2 == 1) = v.testBit k := by
  rw [Nat.testBit_eq_decide_div_mod_eq, Bool.eq_iff_iff]
  simp only [beq_iff_eq, decide_eq_true_eq]
  generalize v / 2 ^ k = y
  omega
theorem wide_test {v : Nat} {m : Int} {b : Bool} (h : Bt.wideS v m = b) (hm : m < 64) : ((v : Int) / 2 ^ m.toNat != 0) = b := by
  unfold Bt.wideS at h
  rw [show decide (m < 64) = true from decide_eq_true hm, Bool.true_and] at h
  have e : (v : Int) / 2 ^ m.toNat = ((v / 2 ^ m.toNat : Nat) : Int) := by simp
  rw [e, ← h]
  generalize v / 2 ^ m.toNat = y
  rw [Bool.eq_iff_iff]
  simp only [bne_iff_ne, ne_eq]
  omega
end Go.Proofs.YtkddillihhjghaaGreat
/-
  Walks: bits.Pack, the reference's Pack.
  Conditions: none.
-/
namespace Go.Proofs.YtkddillihhjghaaGreat
set_option linter.unusedVariables false
set_option linter.unusedSimpArgs false
open Go.RowKit
theorem tot_inv {ws : List Int} {ok : List Bool} {z : Int} (h : Bt.totS ws ok = (z, 0)) : (∀ i, i < ok.length → ok.getD i false = true) ∧ z = Bt.sumK ws ws.length ∧ z ≤ 64 := by
  unfold Bt.totS at h
  split at h
  · rename_i h1
    split at h
    · simp at h
    · rename_i h2
      simp only [Prod.mk.injEq, and_true] at h
      exact ⟨fun i hi => Bt.all_get h1 hi, h.symm, by omega⟩
  · simp at h
/-- What the rounds of packing need of field k. -/
theorem pack_step {fs : List Bt.Fld} {z : Int} (h : Bt.totS (Bt.bitsOf fs) (fs.map Bt.okF) = (z, 0)) {k : Nat} (hk : k < fs.length) :
    Bt.okF (fs.getD k Bt.Fld.zero) = true ∧ 0 ≤ Bt.sumK (Bt.bitsOf fs) k ∧ Bt.sumK (Bt.bitsOf fs) k + (fs.getD k Bt.Fld.zero).bits = Bt.sumK (Bt.bitsOf fs) (k + 1) ∧ Bt.sumK (Bt.bitsOf fs) (k + 1) ≤ z := by
  obtain ⟨h1, h2, h3⟩ := tot_inv h
  have hw : ∀ i, i < (Bt.bitsOf fs).length → Bt.okW ((Bt.bitsOf fs).getD i 0) = true := fun i hi => by
    have hi' : i < fs.length := by simpa [Bt.bitsOf] using hi
    have := h1 i (by simpa using hi')
    rw [Bt.okF_getD] at this
    rw [Bt.bitsOf_getD]
    have := Bt.okF_fits this
    exact Bt.okW_iff.2 ⟨this.1, this.2.1⟩
  have hl : (Bt.bitsOf fs).length = fs.length := by simp [Bt.bitsOf]
  refine ⟨by have := h1 k (by simpa using hk); rwa [Bt.okF_getD] at this, by have := Bt.sumK_mono hw k (by omega); omega, by rw [Bt.sumK, Bt.bitsOf_getD], ?_⟩
  have := Bt.sumK_le hw (k + 1) (fs.length - (k + 1)) (by omega)
  rw [show k + 1 + (fs.length - (k + 1)) = fs.length by omega] at this
  rw [h2, hl]
  omega
theorem getD_mem {fs : List Bt.Fld} {k : Nat} (hk : k < fs.length) : fs.getD k Bt.Fld.zero ∈ fs := by
  rw [show fs.getD k Bt.Fld.zero = fs[k] by simp [List.getD, hk]]
  exact List.getElem_mem hk
theorem room_ok {n : Nat} {p m : Int} (h0 : 0 ≤ p) (h1 : 1 ≤ m) (h2 : m ≤ 64) (h3 : p + m ≤ 8 * (n : Int)) : Bt.roomS n p m = 0 := by
  unfold Bt.roomS
  rw [if_neg (by omega), if_neg (by omega)]
def PackPost (p : List UInt8 × Int) (w : World) (e : Ending) (w' : World) : Prop := ∃ A1 c1, e = .returned (.tuple #[.slice A1 p.1.length c1, .int .i64 p.2]) ∧ OB w' w.heap.size A1 p.1.length c1 p.1 ∧ Below w.heap.size w w'
theorem pack_bad {p : List UInt8 × Int} {w w' : World} {x : Int} (h : p = ([], x)) (hb : Below w.heap.size w w') : PackPost p w (.returned (.tuple #[.slice none 0 0, .int .i64 x])) w' := by
  subst h
  exact ⟨none, 0, rfl, OB.none_ _ _, hb⟩
theorem pack_fine {p : List UInt8 × Int} {w w' : World} {A : Option Addr} {n c : Nat} {l : List UInt8} (h : p = (l, 0)) (hn : l.length = n) (ho : OB w' w.heap.size A n c l) (hb : Below w.heap.size w w') : PackPost p w (.returned (.tuple #[.slice A n c, .int .i64 0])) w' := by
  subst h hn
  exact ⟨A, c, rfl, ho, hb⟩
theorem packS_bad {fs : List Bt.Fld} {z x : Int} (h : Bt.totS (Bt.bitsOf fs) (fs.map Bt.okF) = (z, x)) (hx : x ≠ 0) : Bt.packS fs = ([], x) := by
  unfold Bt.packS
  rw [h, if_neg hx]
theorem packS_fine {fs : List Bt.Fld} {z : Int} (h : Bt.totS (Bt.bitsOf fs) (fs.map Bt.okF) = (z, 0)) : Bt.packS fs = (Bt.packK fs (List.replicate (Bt.bytesS z).toNat 0) fs.length, 0) := by
  unfold Bt.packS
  rw [h, if_pos rfl]
theorem bytesS_nat (z : Int) (h1 : 0 ≤ z) (h2 : z ≤ 64) : ∃ k : Nat, Bt.bytesS z = (k : Int) ∧ k ≤ 8 ∧ z ≤ 8 * (k : Int) := by
  unfold Bt.bytesS
  split
  · exact ⟨0, by omega, by omega, by omega⟩
  · exact ⟨((z - 1) / 8 + 1).toNat, by omega, by omega, by omega⟩
/-- What the reference's first loop has: it adds no more above 64. -/
structure RTotRel (ws : List Int) (ok : List Bool) (k : Nat) (s : Int) : Prop where
  lo : 0 ≤ s
  hi : s ≤ 128
  sum : s ≤ 64 → s = Bt.sumK ws k
  big : 65 ≤ s → 65 ≤ Bt.sumK ws k
  all : ∀ i, i < k → ok.getD i false = true
theorem rtot_start (ws : List Int) (ok : List Bool) : RTotRel ws ok 0 0 := ⟨by omega, by omega, fun _ => rfl, fun h => by omega, fun _ h => absurd h (by omega)⟩
theorem RTotRel.next {ws : List Int} {ok : List Bool} {k : Nat} {s x : Int} (h : RTotRel ws ok k s) (h1 : 1 ≤ x) (h2 : x ≤ 64) (hx : ws.getD k 0 = x) (ho : ok.getD k false = true) (s' : Int) (hs : (s ≤ 64 ∧ s' = s + x) ∨ (65 ≤ s ∧ s' = s)) : RTotRel ws ok (k + 1) s' := by
  have a := h.lo
  have b := h.hi
  refine ⟨by omega, by omega, fun h64 => ?_, fun h65 => ?_, fun i hi => ?_⟩
  · have := h.sum (by omega)
    rw [Bt.sumK, hx]
    omega
  · rw [Bt.sumK, hx]
    by_cases e : 65 ≤ s
    · have := h.big e
      omega
    · have := h.sum (by omega)
      omega
  · rcases Nat.lt_or_ge i k with hi' | hi'
    · exact h.all i hi'
    · obtain rfl : i = k := by omega
      exact ho
theorem RTotRel.toBig {ws : List Int} {ok : List Bool} {k : Nat} {s : Int} (h : RTotRel ws ok k s) (hw : ws.length = k) (ho : ok.length = k) (hs : 65 ≤ s) : Bt.totS ws ok = (0, 3) :=
  tot_big (fun i hi => h.all i (by omega)) (by rw [hw]; have := h.big hs; omega)
theorem RTotRel.fine {ws : List Int} {ok : List Bool} {k : Nat} {s : Int} (h : RTotRel ws ok k s) (hw : ws.length = k) (ho : ok.length = k) (hs : s ≤ 64) : Bt.totS ws ok = (s, 0) := by
  have e := h.sum hs
  rw [tot_ok (fun i hi => h.all i (by omega)) (by rw [hw]; omega), hw, ← e]
end Go.Proofs.YtkddillihhjghaaGreat
/-
  Walks: bits.Unpack.
  Conditions: none.
-/
namespace Go.Proofs.YtkddillihhjghaaGreat
set_option linter.unusedVariables false
set_option linter.unusedSimpArgs false
open Go.RowKit
theorem lb_take : ∀ (m k v : Nat), k ≤ m → (Oct.lb m v).take k = Oct.lb k v
  | 0, k, v, h => by
    obtain rfl : k = 0 := by omega
    simp [Oct.lb]
  | m + 1, k, v, h => by
    rcases Nat.lt_or_ge m k with h1 | h1
    · obtain rfl : k = m + 1 := by omega
      exact List.take_of_length_le (by rw [Oct.lb_length]; omega)
    · rw [Oct.lb, List.take_append_of_le_length (by rw [Oct.lb_length]; omega), lb_take m k v h1]
theorem Put8 (v : Nat) (w : World) (hv : v < 18446744073709551616) :
    Calls Tryz.prog 87 #[.slice none 0 0, .int .i64 8, .int .u64 (v : Int)] w fun e w' => ∃ A1 c1, e = .returned (.tuple #[.slice A1 8 c1, .int .i64 0]) ∧ OB w' w.heap.size A1 8 c1 (Oct.lb 8 v) ∧ Below w.heap.size w w' := by
  have := Put_ok 8 v w (RB.none_ (B := 0)) (by omega) (Nat.zero_le _) (by omega) (by omega) hv (by omega)
  simp only [Nat.zero_add, List.nil_append] at this
  exact this
def UnpPost (T : Nat) (p : List Bt.Fld × Int) (w : World) (e : Ending) (w' : World) : Prop := ∃ A c, e = .returned (.tuple #[.slice A p.1.length c, .int .i64 p.2]) ∧ OS (FlW w' w.heap.size) w' w.heap.size T 2 A p.1.length c p.1 ∧ Below w.heap.size w w'
theorem unp_bad {T : Nat} {p : List Bt.Fld × Int} {w w' : World} {x : Int} (h : p = ([], x)) (hb : Below w.heap.size w w') : UnpPost T p w (.returned (.tuple #[.slice none 0 0, .int .i64 x])) w' := by
  subst h
  exact ⟨none, 0, rfl, OS.none_ _ _ _ _, hb⟩
theorem unp_fine {T : Nat} {p : List Bt.Fld × Int} {w w' : World} {A : Option Addr} {n c : Nat} {l : List Bt.Fld} (h : p = (l, 0)) (hn : l.length = n) (ho : OS (FlW w' w.heap.size) w' w.heap.size T 2 A n c l) (hb : Below w.heap.size w w') : UnpPost T p w (.returned (.tuple #[.slice A n c, .int .i64 0])) w' := by
  subst h hn
  exact ⟨A, c, rfl, ho, hb⟩
theorem unpackS_bad {b : List UInt8} {ws : List Int} {z x : Int} (h : Bt.totS ws (ws.map Bt.okW) = (z, x)) (hx : x ≠ 0) : Bt.unpackS b ws = ([], x) := by
  unfold Bt.unpackS
  rw [h, if_neg hx]
theorem unpackS_short {b : List UInt8} {ws : List Int} {z : Int} (h : Bt.totS ws (ws.map Bt.okW) = (z, 0)) (hs : 8 * (b.length : Int) < z) : Bt.unpackS b ws = ([], 2) := by
  unfold Bt.unpackS
  rw [h, if_pos rfl, if_pos hs]
theorem unpackS_fine {b : List UInt8} {ws : List Int} {z : Int} (h : Bt.totS ws (ws.map Bt.okW) = (z, 0)) (hs : z ≤ 8 * (b.length : Int)) : Bt.unpackS b ws = (Bt.unpK b ws ws.length, 0) := by
  unfold Bt.unpackS
  rw [h, if_pos rfl, if_neg (by simpa using hs)]
theorem unp_step {ws : List Int} {z : Int} (h : Bt.totS ws (ws.map Bt.okW) = (z, 0)) {k : Nat} (hk : k < ws.length) :
    1 ≤ ws.getD k 0 ∧ ws.getD k 0 ≤ 64 ∧ 0 ≤ Bt.sumK ws k ∧ Bt.sumK ws k + ws.getD k 0 = Bt.sumK ws (k + 1) ∧ Bt.sumK ws (k + 1) ≤ z := by
  obtain ⟨h1, h2, h3⟩ := tot_inv h
  have hw : ∀ i, i < ws.length → Bt.okW (ws.getD i 0) = true := fun i hi => by
    have := h1 i (by simpa using hi)
    rwa [Bt.okW_getD] at this
  have h4 := Bt.okW_iff.1 (hw k hk)
  refine ⟨h4.1, h4.2, by have := Bt.sumK_mono hw k (by omega); omega, rfl, ?_⟩
  have := Bt.sumK_le hw (k + 1) (ws.length - (k + 1)) (by omega)
  rw [show k + 1 + (ws.length - (k + 1)) = ws.length by omega] at this
  omega
set_option maxRecDepth 100000 in
set_option maxHeartbeats 4000000 in
theorem Unpack_any {A : Option Addr} {n c B : Nat} {bs : List UInt8} {A' : Option Addr} {m c' B' : Nat} {ws : List Int} (w : World) (hb : RB w B A n c bs) (h : RI w B' A' m c' ws) (hn : n ≤ 1000000) (hm : m ≤ 1000000) (hB : B ≤ w.heap.size) (hB' : B' ≤ w.heap.size) (hx : ∀ x ∈ ws, x ≤ 9223372036854775807) :
    Calls Tryz.prog 66 #[.slice A n c, .slice A' m c'] w (UnpPost 121 (Bt.unpackS bs ws) w) := by
  have hl := h.len
  have hbl := hb.len
  have T := totali_any w h hm hx
  cases hp : Bt.totS ws (ws.map Bt.okW) with
  | mk z x =>
  rw [hp] at T
  have HP := Lib.hid hp; clear hp
  replace T := Lib.hid T
  dsimp only at T
  by_cases hx0 : x = 0
  · subst hx0
    obtain ⟨t1, t2, t3⟩ := tot_inv HP.out
    clear t1 t2
    by_cases hs : 8 * (n : Int) < z
    · have HPK := Lib.hid (unpackS_short (b := bs) HP.out (by rw [hbl]; exact hs))
      clear hbl hl hx
      go_enter Tryz.func66, Tryz.ntmps66
      go_wp2_with fail
      refine (T.out).mono ?_
      rintro e _ ⟨rfl, rfl⟩
      go_wp2_with fail
      go_ret2
      exact unp_bad HPK.out (Below.refl _ _)
    · have hs' : z ≤ 8 * (n : Int) := by omega
      have HPK := Lib.hid (unpackS_fine (b := bs) HP.out (by rw [hbl]; exact hs'))
      have HL := Lib.hid hl
      clear hbl hl hx
      go_enter Tryz.func66, Tryz.ntmps66
      go_wp2_with fail
      refine (T.out).mono ?_
      rintro e _ ⟨rfl, rfl⟩
      go_wp2_with fail
      go_loopw [8, 9, 33] (fun v a u wr => ∃ (k : Nat) (A1 : Option Addr) (c1 : Nat), k ≤ m ∧ u = .int .i64 k ∧ v = .slice A1 k c1 ∧ a = .int .i64 (Bt.sumK ws k) ∧ OS (FlW wr w.heap.size) wr w.heap.size 121 2 A1 k c1 (Bt.unpK bs ws k) ∧ Below w.heap.size w wr) (fun _ _ u _ => m - (intOf u).toNat)
      case atStart => exact ⟨0, _, _, by omega, rfl, rfl, rfl, OS.none_ _ _ _ _, Below.refl _ _⟩
      case round =>
        obtain ⟨k, A1, c1, hk, rfl, rfl, rfl, os, bb⟩ := hrel
        by_cases hlt : k < m
        · obtain ⟨b, o, rfl, hbB, q0⟩ := (h.below (bb.mono hB')).at_ hlt
          obtain ⟨s1, s2, s3, s4, s5⟩ := unp_step HP.out (k := k) (by rw [HL.out]; omega)
          have hnx : Bt.unpK bs ws (k + 1) = Bt.unpK bs ws k ++ [Bt.fieldS bs (Bt.sumK ws k).toNat (ws.getD k 0)] := rfl
          generalize ws.getD k 0 = x at *
          obtain ⟨P, hP⟩ : ∃ P : Nat, Bt.sumK ws k = (P : Int) := ⟨_, (Int.toNat_of_nonneg s3).symm⟩
          obtain ⟨M, rfl⟩ : ∃ M : Nat, x = (M : Int) := ⟨x.toNat, by omega⟩
          obtain ⟨nb, e1, e2, e3⟩ := bytesS_nat (M : Int) (by omega) s2
          have hz := bb.size
          have C1 := BGet_ok P M wr (hb.below (bb.mono hB)) hn (by omega) (by omega) (by omega)
          have C2 := fun w => Bytes_any (M : Int) w (by omega)
          have hlow := Bt.lowF_lt bs P M
          have hlow2 : Bt.lowF bs P M < 18446744073709551616 := Nat.lt_of_lt_of_le hlow (Nat.le_trans (Nat.pow_le_pow_right (by decide) (show M ≤ 64 by omega)) (by decide))
          rw [e1] at C2
          rw [hP] at s4 s3 hnx ⊢
          rw [← s4] at s5
          unfold Bt.fieldS at hnx
          rw [e1, Int.toNat_natCast, Int.toNat_natCast, Int.toNat_natCast] at hnx
          generalize Bt.lowF bs P M = V at *
          have C3 := Put8 V wr hlow2
          have HN := Lib.hid hnx; have HS := Lib.hid s4
          replace C1 := Lib.hid C1; replace C2 := Lib.hid C2; replace C3 := Lib.hid C3
          clear hnx s4 hP hlow e1
          go_wp2_with fail
          refine (C1.out).mono ?_
          rintro e _ ⟨rfl, rfl⟩
          go_wp2_with fail
          refine (C3.out).mono ?_
          rintro e w1 ⟨A2, c2, rfl, o2, b2⟩
          have hcut := fun w => run_cut_full etb A2 8 c2 nb (Nat.le_trans e2 o2.rb.le) .i64 .i64 w
          have ow := o2.ow.cut e2
          rw [lb_take 8 nb V e2] at ow
          replace ow := ow.more hz
          have os1 := os.below b2 (R' := FlW w1 w.heap.size) fun _ _ h => h.below b2
          have d2 := below_step bb b2 (Nat.le_refl _)
          clear o2 C1 C3
          go_wp2_with fail
          refine (C2.out _).mono ?_
          rintro e _ ⟨rfl, rfl⟩
          go_wp2_with fail
          refine (C2.out _).mono ?_
          rintro e _ ⟨rfl, rfl⟩
          go_wp2_with (at_builtin; refine wpList_apps etfl (fun w1 => FlW w1 w.heap.size) rfl (.tmp 49) (.tmp 58) rfl rfl rfl rfl w.heap.size os1 ⟨(M : Int), Oct.lb nb V⟩ ⟨A2, nb, nb, rfl, ow⟩ rfl (field_oneCell _ _ _ _) (by omega) (by omega) d2.size (fun w1 A1 n1 c1 xs h g f cs hf => hf.beside h (by decide) g) ?_; intro A3 c3 w3 os3 b3 g3 _)
          go_roundw
          case rel => exact ⟨k + 1, A3, c3, by omega, by go_num, rfl, by rw [← HS.out], by rw [HN.out]; exact os3, d2.trans b3⟩
          case measure => simp [intOf] <;> omega
        · obtain rfl : k = m := by omega
          go_wp2_with fail
          go_ret2
          exact unp_fine (by rw [HPK.out, HL.out]) (Bt.unpK_length _ _ _) os bb
  · have hx' : (x != 0) = true := by simpa using hx0
    have HX := Lib.hid hx0; clear hx0 hx
    go_enter Tryz.func66, Tryz.ntmps66
    go_wp2_with fail
    refine (T.out).mono ?_
    rintro e _ ⟨rfl, rfl⟩
    go_wp2_with fail
    go_ret2
    exact unp_bad (unpackS_bad HP.out HX.out) (Below.refl _ _)
end Go.Proofs.YtkddillihhjghaaGreat
/-
  A dictionary that is being made; entries that are read.
  Conditions: none.
-/
namespace Go.Proofs.YtkddillihhjghaaGreat
set_option linter.unusedVariables false
set_option linter.unusedSimpArgs false
open Go.RowKit
/-- An entry's cells, its bytes the call's own. -/
def EnB (w : World) (base : Nat) (e : Ent.En) (cs : List Value) : Prop := ∃ A n c, cs = enL e A n c ∧ OB w base A n c e.dflt
def ByB (w : World) (base : Nat) (b : List UInt8) (cs : List Value) : Prop := ∃ A n c, cs = [.slice A n c] ∧ OB w base A n c b
section
variable {w w' : World} {base base' g i e size n c : Nat} {t : TypeId} {A : Option Addr} {l : List UInt8} {xs : List Value} {ds : Array Value} {u : Value}
/-- Bytes of the call's own are kept where rows of another type are written. -/
theorem OB.beside (h : OB w base A n c l) {A' : Option Addr} {n' c' : Nat} {xs' : List Value} (h' : OV w base' e size A' n' c' xs') (hne : e ≠ 5) (hg : w.grownBy w' (Value.slice A' n' c').ownBlock) : OB w' base A n c l := OB.kept h hg (own_own_ne h' h hne)
theorem OB.off (h : OB w base A n c l) (hb : Blk w g t ds) (ht : t ≠ 5) : OB (w.setCell ⟨g, i, none⟩ u) base A n c l :=
  OB.kept h (row := some g) (grown_setCell (World.grownBy.refl _ _) (.inl rfl) u) (.inr (own_blk_ne h hb (Ne.symm ht)))
theorem OV.off (h : OV w base e size A n c xs) (hb : Blk w g t ds) (ht : t ≠ e) : OV (w.setCell ⟨g, i, none⟩ u) base e size A n c xs :=
  OV.kept h (row := some g) (grown_setCell (World.grownBy.refl _ _) (.inl rfl) u) (.inr (own_blk_ne h hb (Ne.symm ht)))
theorem OV.beside (h : OV w base e size A n c xs) {e' size' : Nat} {A' : Option Addr} {n' c' : Nat} {xs' : List Value} (h' : OV w base' e' size' A' n' c' xs') (hne : e' ≠ e) (hg : w.grownBy w' (Value.slice A' n' c').ownBlock) : OV w' base e size A n c xs := OV.kept h hg (own_own_ne h' h hne)
theorem Blk.beside (h : Blk w g t ds) {A' : Option Addr} {n' c' : Nat} {xs' : List Value} (h' : OV w base' e size A' n' c' xs') (hne : e ≠ t) (hg : w.grownBy w' (Value.slice A' n' c').ownBlock) : Blk w' g t ds := h.grown hg (fun q => own_blk_ne h' h hne q.symm)
end
section
variable {w w' : World} {base g i size n c : Nat} {t e' : TypeId} {e : Ent.En} {b : List UInt8} {cs xs : List Value} {A : Option Addr} {ds : Array Value} {u : Value}
theorem EnB.below (h : EnB w base e cs) (hb : Below w.heap.size w w') : EnB w' base e cs := by obtain ⟨A, n, c, h1, h2⟩ := h; exact ⟨A, n, c, h1, h2.below hb⟩
theorem ByB.below (h : ByB w base b cs) (hb : Below w.heap.size w w') : ByB w' base b cs := by obtain ⟨A, n, c, h1, h2⟩ := h; exact ⟨A, n, c, h1, h2.below hb⟩
theorem EnB.beside {base' : Nat} (h : EnB w base e cs) (h' : OV w base' e' size A n c xs) (hne : e' ≠ 5) (hg : w.grownBy w' (Value.slice A n c).ownBlock) : EnB w' base e cs := by obtain ⟨A1, n1, c1, h1, h2⟩ := h; exact ⟨A1, n1, c1, h1, h2.beside h' hne hg⟩
theorem ByB.beside {base' : Nat} (h : ByB w base b cs) (h' : OV w base' e' size A n c xs) (hne : e' ≠ 5) (hg : w.grownBy w' (Value.slice A n c).ownBlock) : ByB w' base b cs := by obtain ⟨A1, n1, c1, h1, h2⟩ := h; exact ⟨A1, n1, c1, h1, h2.beside h' hne hg⟩
theorem EnB.off (h : EnB w base e cs) (hb : Blk w g t ds) (ht : t ≠ 5) : EnB (w.setCell ⟨g, i, none⟩ u) base e cs := by obtain ⟨A1, n1, c1, h1, h2⟩ := h; exact ⟨A1, n1, c1, h1, h2.off hb ht⟩
theorem ByB.off (h : ByB w base b cs) (hb : Blk w g t ds) (ht : t ≠ 5) : ByB (w.setCell ⟨g, i, none⟩ u) base b cs := by obtain ⟨A1, n1, c1, h1, h2⟩ := h; exact ⟨A1, n1, c1, h1, h2.off hb ht⟩
end
/-- A dictionary that is being made, at block g. -/
structure NwM (t : TypeId) (w : World) (base g : Nat) (lA : Option Addr) (kl lc : Nat) (vA : Option Addr) (kv vc : Nat) (es : List Ent.En) (bs : List (List UInt8)) : Prop where
  gb : base ≤ g
  blk : Blk w g t #[.slice lA kl lc, .slice vA kv vc]
  row : OS (EnB w base) w base 68 11 lA kl lc es
  vrow : OS (ByB w base) w base 49 1 vA kv vc bs
section
variable {t : TypeId} {w w' : World} {base g kl lc kv vc : Nat} {lA vA : Option Addr} {es : List Ent.En} {bs : List (List UInt8)}
theorem NwM.below (h : NwM t w base g lA kl lc vA kv vc es bs) (hb : Below w.heap.size w w') : NwM t w' base g lA kl lc vA kv vc es bs :=
  ⟨h.gb, h.blk.later hb, OS.below h.row hb fun _ _ k => k.below hb, OS.below h.vrow hb fun _ _ k => k.below hb⟩
/-- Behind an append to its entries, and the store of the new slice. -/
theorem NwM.addl (h : NwM t w base g lA kl lc vA kv vc es bs) (ht : t ≠ 5) (hte : t ≠ 68) (htv : t ≠ 49) {A1 : Option Addr} {k1 c1 : Nat} {es' : List Ent.En} (hrow : OS (EnB w' base) w' base 68 11 A1 k1 c1 es') (hg : w.grownBy w' (Value.slice lA kl lc).ownBlock) :
    NwM t (w'.setCell ⟨g, 0, none⟩ (.slice A1 k1 c1)) base g A1 k1 c1 vA kv vc es' bs := by
  have hr := h.row
  obtain ⟨xs0, r0, _⟩ := hr
  have hb : Blk w' g t #[.slice lA kl lc, .slice vA kv vc] := h.blk.beside r0 (Ne.symm hte) hg
  refine ⟨h.gb, hb.set_ 0 _, ?_, ?_⟩
  · obtain ⟨ys, o1, o2⟩ := hrow
    exact ⟨ys, o1.off hb hte, o2.imp fun _ _ k => k.off hb ht⟩
  · obtain ⟨ys, o1, o2⟩ := h.vrow
    have o1' := OV.beside o1 r0 (by decide) hg
    exact ⟨ys, o1'.off hb htv, o2.imp fun _ _ k => (k.beside r0 (by decide) hg).off hb ht⟩
theorem NwM.addv (h : NwM t w base g lA kl lc vA kv vc es bs) (ht : t ≠ 5) (hte : t ≠ 68) (htv : t ≠ 49) {A1 : Option Addr} {k1 c1 : Nat} {bs' : List (List UInt8)} (hrow : OS (ByB w' base) w' base 49 1 A1 k1 c1 bs') (hg : w.grownBy w' (Value.slice vA kv vc).ownBlock) :
    NwM t (w'.setCell ⟨g, 1, none⟩ (.slice A1 k1 c1)) base g lA kl lc A1 k1 c1 es bs' := by
  have hr := h.vrow
  obtain ⟨xs0, r0, _⟩ := hr
  have hb : Blk w' g t #[.slice lA kl lc, .slice vA kv vc] := h.blk.beside r0 (Ne.symm htv) hg
  refine ⟨h.gb, hb.set_ 1 _, ?_, ?_⟩
  · obtain ⟨ys, o1, o2⟩ := h.row
    have o1' := OV.beside o1 r0 (by decide) hg
    exact ⟨ys, o1'.off hb hte, o2.imp fun _ _ k => (k.beside r0 (by decide) hg).off hb ht⟩
  · obtain ⟨ys, o1, o2⟩ := hrow
    exact ⟨ys, o1.off hb htv, o2.imp fun _ _ k => k.off hb ht⟩
/-- Made. -/
theorem NwM.made {n : Nat} (h : NwM t w base g lA n lc vA n vc es bs) (ht : t ≠ 5) (hte : t ≠ 68) (htv : t ≠ 49) (hl : es.length = n) (hbs : bs.length = n) (ho : Dc.Ord es) (h96 : n ≤ 96) (hr : ∀ e ∈ es, Ent.rightS e = 0) :
    ∃ gv xs vs, DRt t w (fun q => base ≤ q) g gv lA lc vA vc xs vs ⟨es, bs⟩ := by
  obtain ⟨xs, r1, r2⟩ := h.row
  obtain ⟨vs, v1, v2⟩ := h.vrow
  subst hl
  have hgl := h.blk.lt
  have hgv : ∃ gv, gv ≠ g ∧ (∀ k, (Value.slice vA es.length vc).ownBlock = some k → k = gv) ∧ ∀ {e' size' n' c' : Nat} {A' : Option Addr} {zs : List Value}, OV w base e' size' A' n' c' zs → 49 ≠ e' → ∀ k, (Value.slice A' n' c').ownBlock = some k → k ≠ gv := by
    cases hk : (Value.slice vA es.length vc).ownBlock with
    | none => exact ⟨w.heap.size, by omega, (fun k e => by cases e), (fun ho _ k hk => by have := (ho.lt k hk).2; omega)⟩
    | some q =>
      refine ⟨q, fun e => own_blk_ne v1 h.blk (Ne.symm htv) (by rw [hk, e]), (fun k e => by injection e with e; exact e.symm), fun ho hne k hk2 e => ?_⟩
      rcases own_own_ne v1 ho hne with h5 | h5
      · rw [h5] at hk2; cases hk2
      · exact h5 (by rw [hk2, hk, e])
  obtain ⟨gv, g1, g2, g3⟩ := hgv
  have bytes : ∀ {A : Option Addr} {n c : Nat} {b : List UInt8}, OB w base A n c b → RBp w (Fx (fun q => base ≤ q) g gv) A n c b := fun ho => ho.rbp fun k hk =>
    ⟨(ho.lt k hk).1, fun e => own_blk_ne ho h.blk (Ne.symm ht) (by rw [hk, e]), g3 (A' := _) (zs := _) ho (by decide) k hk⟩
  refine ⟨gv, xs, vs, { fg := h.gb, ne := Ne.symm g1, blk := h.blk, row := r1.rvp fun k hk => ⟨(r1.lt k hk).1, fun e => own_blk_ne r1 h.blk (Ne.symm hte) (by rw [hk, e]), g3 r1 (by decide) k hk⟩, rows := r2.imp fun e cs he => ?_, own := v1.more (Nat.zero_le _), at_ := fun k hk => ?_, vals := v2.imp fun b cs hb => ?_, len := hbs, ord := ho, few := h96, right := hr }⟩
  · obtain ⟨A, n, c, e1, e2⟩ := he
    exact ⟨A, n, c, e1, bytes e2⟩
  · have := g2 k hk
    exact ⟨this, by rw [← this]; exact (v1.lt k hk).1⟩
  · obtain ⟨A, n, c, e1, e2⟩ := hb
    exact ⟨A, n, c, e1, bytes e2⟩
end
/-- An entry's cells, as they are read. -/
def EnC (w : World) (B : Nat) (e : Ent.En) (cs : List Value) : Prop := ∃ A n c, cs = enL e A n c ∧ RB w B A n c e.dflt
/-- Entries that are read; their bytes below B'. -/
def REn (w : World) (B B' : Nat) (A : Option Addr) (n c : Nat) (es : List Ent.En) : Prop := RS (EnC w B') w B 11 A n c es
section
variable {w w' : World} {B B' n c : Nat} {A : Option Addr} {es : List Ent.En}
theorem REn.len (h : REn w B B' A n c es) : es.length = n := RS.len h (by decide)
theorem REn.lt (h : REn w B B' A n c es) : n ≤ 9223372036854775807 := RS.lt h
theorem REn.below (h : REn w B B' A n c es) (hb : Below B w w') (hB : B' ≤ B) : REn w' B B' A n c es := RS.below h hb fun _ _ k => by
  obtain ⟨A, n, c, h1, h2⟩ := k
  exact ⟨A, n, c, h1, h2.below (hb.mono hB)⟩
theorem REn.at_ (h : REn w B B' A n c es) {i : Nat} (hi : i < n) : ∃ b o A1 n1 c1, A = some ⟨b, o, none⟩ ∧ b < B ∧ RB w B' A1 n1 c1 (es.getD i Dc.en0).dflt ∧
    ∀ j u, (enL (es.getD i Dc.en0) A1 n1 c1)[j]? = some u → w.cell? ⟨b, o + i * 11 + j, none⟩ = some u := by
  have hl := h.len
  have hf : es[i]? = some (es.getD i Dc.en0) := by simp [List.getD, List.getElem?_eq_getElem (show i < es.length by omega)]
  obtain ⟨b, o, cs, rfl, hb, ⟨A1, n1, c1, rfl, hr⟩, hc⟩ := RS.at_ h (by decide) hf
  exact ⟨b, o, A1, n1, c1, rfl, hb, hr, fun j u hu => hc j u (by have := (List.getElem?_eq_some_iff.1 hu).1; simpa [enL] using this) hu⟩
end
theorem en_oneCell (e : Ent.En) (A : Option Addr) (n c : Nat) : ∀ u ∈ enL e A n c, u.oneCell' = true := by
  intro u hu
  simp only [enL, List.mem_cons, List.not_mem_nil, or_false] at hu
  rcases hu with rfl | rfl | rfl | rfl | rfl | rfl | rfl | rfl | rfl | rfl | rfl <;> rfl
theorem newF_step {l : List Ent.En} {k n : Nat} (h : k < n) : Dc.newF l (n - k) k = if Ent.rightS (l.getD k Dc.en0) ≠ 0 then (Ent.rightS (l.getD k Dc.en0), k) else if 0 < k ∧ Ent.befB (l.getD (k - 1) Dc.en0) (l.getD k Dc.en0) = false then (16, k) else Dc.newF l (n - (k + 1)) (k + 1) := by
  obtain ⟨m, hm⟩ : ∃ m, n - k = m + 1 := ⟨n - k - 1, by omega⟩
  rw [hm, Dc.newF, show n - (k + 1) = m by omega]
/-- What New hands back: a dictionary, or why there is none. -/
def NewPost (t : TypeId) (es : List Ent.En) (w : World) (e : Ending) (w' : World) : Prop :=
  ((Dc.newS es).1 = 0 ∧ Below w.heap.size w w' ∧ ∃ (g gv lc vc : Nat) (la : Addr) (vA : Option Addr) (xs vs : List Value), e = .returned (.tuple #[.pointer (some ⟨g, 0, none⟩), .int .i64 0, .int .i64 0]) ∧ DRt t w' (fun q => w.heap.size ≤ q) g gv (some la) lc vA vc xs vs ⟨es, es.map (·.dflt)⟩) ∨
  ((Dc.newS es).1 ≠ 0 ∧ Below w.heap.size w w' ∧ e = .returned (.tuple #[.pointer none, .int .i64 (Dc.newS es).1, .int .i64 ((Dc.newS es).2 : Int)]))
theorem new_no {t : TypeId} {es : List Ent.En} {w w' : World} {x y : Int} {q : Nat} (h : Dc.newS es = (x, q)) (hx : x ≠ 0) (hy : y = (q : Int)) (hb : Below w.heap.size w w') : NewPost t es w (.returned (.tuple #[.pointer none, .int .i64 x, .int .i64 y])) w' := by
  subst hy
  exact .inr ⟨by rw [h]; exact hx, hb, by rw [h]⟩
end Go.Proofs.YtkddillihhjghaaGreat
/-
  Values of the call's own, in memory.
  Conditions: none.
-/
namespace Go.Proofs.YtkddillihhjghaaGreat
set_option linter.unusedVariables false
set_option linter.unusedSimpArgs false
open Go.RowKit
theorem etvl : ET Tryz.prog 55 64 3 40 (.agg #[.int .i64 0, .int .i64 0, .slice none 0 0]) := ⟨Tryz.underlying55, info_parts (by kernel_rfl), rfl, by decide⟩
/-- The cells of a value whose bytes are the call's own. -/
def VlW (w : World) (base : Nat) (f : Dc.Vl) (cs : List Value) : Prop := ∃ A n c, cs = [.int .i64 f.index, .int .i64 f.sub, .slice A n c] ∧ OW w base A n c f.data
theorem VlW.below {w w' : World} {base : Nat} {f : Dc.Vl} {cs : List Value} (hb : Below w.heap.size w w') (h : VlW w base f cs) : VlW w' base f cs := by
  obtain ⟨A, n, c, h1, h2⟩ := h
  exact ⟨A, n, c, h1, h2.below hb⟩
theorem VlW.more {w : World} {base base' : Nat} {f : Dc.Vl} {cs : List Value} (hb : base' ≤ base) (h : VlW w base f cs) : VlW w base' f cs := by
  obtain ⟨A, n, c, h1, h2⟩ := h
  exact ⟨A, n, c, h1, h2.more hb⟩
theorem VlW.beside {w w' : World} {base base' e size m c' : Nat} {A' : Option Addr} {xs : List Value} (h' : OV w base' e size A' m c' xs) (hne : e ≠ 5) (hg : w.grownBy w' (Value.slice A' m c').ownBlock) {f : Dc.Vl} {cs : List Value} (h : VlW w base f cs) : VlW w' base f cs := by
  obtain ⟨A, n, c, h1, h2⟩ := h
  exact ⟨A, n, c, h1, h2.beside h' hne hg⟩
theorem value_oneCell (x y : Int) (A : Option Addr) (m c : Nat) : ∀ u ∈ ([.int .i64 x, .int .i64 y, .slice A m c] : List Value), u.oneCell' = true := by
  intro u hu
  simp only [List.mem_cons, List.not_mem_nil, or_false] at hu
  rcases hu with rfl | rfl | rfl <;> rfl
end Go.Proofs.YtkddillihhjghaaGreat
