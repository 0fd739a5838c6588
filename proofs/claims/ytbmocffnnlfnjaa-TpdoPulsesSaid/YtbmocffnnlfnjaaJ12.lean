/-
  Texts joined: BitRefPut, BitPack, MapGath, FrmPure, FrmMem, TpdSend.
  Conditions: none.
-/
import Derived.Test.YtbmocffnnlfnjaaJ01
import Derived.Test.YtbmocffnnlfnjaaJ02
import Derived.Test.YtbmocffnnlfnjaaJ04
import Derived.Test.YtbmocffnnlfnjaaJ05
import Derived.Test.YtbmocffnnlfnjaaJ11
import Derived.Test.YtbmocffnnlfnjaaProg
/-
  Walks: the reference's Put of bits.
  Conditions: none.
-/
namespace Go.Proofs.Ytbmocffnnlfnjaa
set_option linter.unusedVariables false
set_option linter.unusedSimpArgs false
open Go.RowKit
theorem two_steps : ∀ j, j < 8 → ∀ c, c < 256 → ((c &&& (255 - 2 ^ j)) ||| 2 ^ j) = (c ||| 2 ^ j) := by decide +kernel
theorem sb_twice (c : UInt8) (j : Nat) (hj : j < 8) : Bt.sb (Bt.sb c j false) j true = Bt.sb c j true := by
  have hc := c.toNat_lt
  have ho : c.toNat &&& (255 - 2 ^ j) < 256 := Nat.lt_of_le_of_lt Nat.and_le_left hc
  have e : (Bt.sb c j false).toNat = c.toNat &&& (255 - 2 ^ j) := by
    rw [Bt.sb, if_neg (by decide), UInt8.toNat_ofNat', Nat.mod_eq_of_lt (by simpa using ho)]
  rw [Bt.sb, if_pos rfl, e, two_steps j hj _ hc, Bt.sb, if_pos rfl]
theorem setB_twice (l : List UInt8) (i : Nat) : Bt.setB (Bt.setB l i false) i true = Bt.setB l i true := by
  unfold Bt.setB
  by_cases h : i / 8 < l.length
  · have e : (l.set (i / 8) (Bt.sb (l.getD (i / 8) 0) (i % 8) false)).getD (i / 8) 0 = Bt.sb (l.getD (i / 8) 0) (i % 8) false := by simp [List.getD, h]
    rw [e, sb_twice _ _ (Nat.mod_lt _ (by decide)), List.set_set]
  · have e : ∀ x, l.set (i / 8) x = l := fun x => List.set_eq_of_length_le (by omega)
    simp only [e]
theorem test_mod (v k : Nat) : (((v / 2 ^ k : Nat) : Int).tmod 2 == 1) = v.testBit k := by
  rw [Nat.testBit_eq_decide_div_mod_eq, Int.tmod_eq_emod_of_nonneg (Int.natCast_nonneg _), Bool.eq_iff_iff]
  simp only [beq_iff_eq, decide_eq_true_eq]
  generalize v / 2 ^ k = y
  omega
theorem test_emod (v k : Nat) : (((v / 2 ^ k : Nat) : Int) % 2 == 1) = v.testBit k := by
  rw [Nat.testBit_eq_decide_div_mod_eq, Bool.eq_iff_iff]
  simp only [beq_iff_eq, decide_eq_true_eq]
  generalize v / 2 ^ k = y
  omega
theorem wide_test {v : Nat} {m : Int} {b : Bool} (h : Bt.wideS v m = b) (hm : m < 64) : ((v : Int) / 2 ^ m.toNat != 0) = b := by
  unfold Bt.wideS at h
  rw [show decide (m < 64) = true from decide_eq_true hm, Bool.true_and] at h
  have e : (v : Int) / 2 ^ m.toNat = ((v / 2 ^ m.toNat : Nat) : Int) := by simp
  rw [e, ← h]
  generalize v / 2 ^ m.toNat = y
  rw [Bool.eq_iff_iff]
  simp only [bne_iff_ne, ne_eq]
  omega
end Go.Proofs.Ytbmocffnnlfnjaa
/-
  Walks: bits.Pack, the reference's Pack.
  Conditions: none.
-/
namespace Go.Proofs.Ytbmocffnnlfnjaa
set_option linter.unusedVariables false
set_option linter.unusedSimpArgs false
open Go.RowKit
theorem tot_inv {ws : List Int} {ok : List Bool} {z : Int} (h : Bt.totS ws ok = (z, 0)) : (∀ i, i < ok.length → ok.getD i false = true) ∧ z = Bt.sumK ws ws.length ∧ z ≤ 64 := by
  unfold Bt.totS at h
  split at h
  · rename_i h1
    split at h
    · simp at h
    · rename_i h2
      simp only [Prod.mk.injEq, and_true] at h
      exact ⟨fun i hi => Bt.all_get h1 hi, h.symm, by omega⟩
  · simp at h
/-- What the rounds of packing need of field k. -/
theorem pack_step {fs : List Bt.Fld} {z : Int} (h : Bt.totS (Bt.bitsOf fs) (fs.map Bt.okF) = (z, 0)) {k : Nat} (hk : k < fs.length) :
    Bt.okF (fs.getD k Bt.Fld.zero) = true ∧ 0 ≤ Bt.sumK (Bt.bitsOf fs) k ∧ Bt.sumK (Bt.bitsOf fs) k + (fs.getD k Bt.Fld.zero).bits = Bt.sumK (Bt.bitsOf fs) (k + 1) ∧ Bt.sumK (Bt.bitsOf fs) (k + 1) ≤ z := by
  obtain ⟨h1, h2, h3⟩ := tot_inv h
  have hw : ∀ i, i < (Bt.bitsOf fs).length → Bt.okW ((Bt.bitsOf fs).getD i 0) = true := fun i hi => by
    have hi' : i < fs.length := by simpa [Bt.bitsOf] using hi
    have := h1 i (by simpa using hi')
    rw [Bt.okF_getD] at this
    rw [Bt.bitsOf_getD]
    have := Bt.okF_fits this
    exact Bt.okW_iff.2 ⟨this.1, this.2.1⟩
  have hl : (Bt.bitsOf fs).length = fs.length := by simp [Bt.bitsOf]
  refine ⟨by have := h1 k (by simpa using hk); rwa [Bt.okF_getD] at this, by have := Bt.sumK_mono hw k (by omega); omega, by rw [Bt.sumK, Bt.bitsOf_getD], ?_⟩
  have := Bt.sumK_le hw (k + 1) (fs.length - (k + 1)) (by omega)
  rw [show k + 1 + (fs.length - (k + 1)) = fs.length by omega] at this
  rw [h2, hl]
  omega
theorem getD_mem {fs : List Bt.Fld} {k : Nat} (hk : k < fs.length) : fs.getD k Bt.Fld.zero ∈ fs := by
  rw [show fs.getD k Bt.Fld.zero = fs[k] by simp [List.getD, hk]]
  exact List.getElem_mem hk
theorem room_ok {n : Nat} {p m : Int} (h0 : 0 ≤ p) (h1 : 1 ≤ m) (h2 : m ≤ 64) (h3 : p + m ≤ 8 * (n : Int)) : Bt.roomS n p m = 0 := by
  unfold Bt.roomS
  rw [if_neg (by omega), if_neg (by omega)]
def PackPost (p : List UInt8 × Int) (w : World) (e : Ending) (w' : World) : Prop := ∃ A1 c1, e = .returned (.tuple #[.slice A1 p.1.length c1, .int .i64 p.2]) ∧ OB w' w.heap.size A1 p.1.length c1 p.1 ∧ Below w.heap.size w w'
theorem pack_bad {p : List UInt8 × Int} {w w' : World} {x : Int} (h : p = ([], x)) (hb : Below w.heap.size w w') : PackPost p w (.returned (.tuple #[.slice none 0 0, .int .i64 x])) w' := by
  subst h
  exact ⟨none, 0, rfl, OB.none_ _ _, hb⟩
theorem pack_fine {p : List UInt8 × Int} {w w' : World} {A : Option Addr} {n c : Nat} {l : List UInt8} (h : p = (l, 0)) (hn : l.length = n) (ho : OB w' w.heap.size A n c l) (hb : Below w.heap.size w w') : PackPost p w (.returned (.tuple #[.slice A n c, .int .i64 0])) w' := by
  subst h hn
  exact ⟨A, c, rfl, ho, hb⟩
theorem packS_bad {fs : List Bt.Fld} {z x : Int} (h : Bt.totS (Bt.bitsOf fs) (fs.map Bt.okF) = (z, x)) (hx : x ≠ 0) : Bt.packS fs = ([], x) := by
  unfold Bt.packS
  rw [h, if_neg hx]
theorem packS_fine {fs : List Bt.Fld} {z : Int} (h : Bt.totS (Bt.bitsOf fs) (fs.map Bt.okF) = (z, 0)) : Bt.packS fs = (Bt.packK fs (List.replicate (Bt.bytesS z).toNat 0) fs.length, 0) := by
  unfold Bt.packS
  rw [h, if_pos rfl]
theorem bytesS_nat (z : Int) (h1 : 0 ≤ z) (h2 : z ≤ 64) : ∃ k : Nat, Bt.bytesS z = (k : Int) ∧ k ≤ 8 ∧ z ≤ 8 * (k : Int) := by
  unfold Bt.bytesS
  split
  · exact ⟨0, by omega, by omega, by omega⟩
  · exact ⟨((z - 1) / 8 + 1).toNat, by omega, by omega, by omega⟩
set_option maxRecDepth 100000 in
set_option maxHeartbeats 4000000 in
theorem Pack_any {A : Option Addr} {n c B B' : Nat} {fs : List Bt.Fld} (w : World) (h : RFl w B B' A n c fs) (hn : n ≤ 1000000) (hB : B ≤ w.heap.size) (hB' : B' ≤ B) (hsm : ∀ f ∈ fs, f.data.length ≤ 1000000) (hm : ∀ f ∈ fs, f.bits ≤ 9223372036854775807) :
    Calls Try.prog 32 #[.slice A n c] w (PackPost (Bt.packS fs) w) := by
  have hl := h.len
  have T := total_any w h hn hB hB' hsm hm
  cases hp : Bt.totS (Bt.bitsOf fs) (fs.map Bt.okF) with
  | mk z x =>
  rw [hp] at T
  have HP := Lib.hid hp; clear hp
  replace T := Lib.hid T
  by_cases hx : x = 0
  · subst hx
    obtain ⟨t1, t2, t3⟩ := tot_inv HP.out
    have hz0 : 0 ≤ z := by
      rcases Nat.eq_zero_or_pos fs.length with h0 | h0
      · rw [t2, show (Bt.bitsOf fs).length = 0 by simpa [Bt.bitsOf] using h0]; exact Int.le_refl 0
      · have h' := pack_step HP.out (k := 0) h0
        have h'' := Bt.okF_fits h'.1
        have e : Bt.sumK (Bt.bitsOf fs) 0 = 0 := rfl
        omega
    obtain ⟨nb, hb1, hb2, hb3⟩ := bytesS_nat z hz0 t3
    have C := fun w => Bytes_any z w (by omega)
    rw [hb1] at C
    replace C := Lib.hid C
    have HPK := Lib.hid (packS_fine HP.out)
    have HB1 := Lib.hid hb1; clear hb1
    clear t1 t2
    go_enter Try.func32, Try.ntmps32
    go_wp2_with fail
    refine (T.out).mono ?_
    rintro e w1 ⟨rfl, b1⟩
    go_wp2_with fail
    refine (C.out _).mono ?_
    rintro e _ ⟨rfl, rfl⟩
    go_wp2_with (at_make; refine wpList_mkb etb rfl (.tmp 21) (.tmp 21) rfl .i64 .i64 nb nb rfl rfl (Nat.le_refl _) (by omega) w.heap.size b1.size ?_; intro w2 o2 b2 hs2)
    have d2 := below_step b1 b2 (Nat.le_refl _)
    go_loopw [6, 7, 25] (fun v a u wr => ∃ (k : Nat) (A1 : Option Addr) (c1 : Nat), k ≤ n ∧ u = .int .i64 k ∧ v = .slice A1 nb c1 ∧ a = .int .i64 (Bt.sumK (Bt.bitsOf fs) k) ∧ OB wr w.heap.size A1 nb c1 (Bt.packK fs (List.replicate nb 0) k) ∧ Below w.heap.size w wr) (fun _ _ u _ => n - (intOf u).toNat)
    case atStart => exact ⟨0, _, _, by omega, rfl, rfl, rfl, o2, d2⟩
    case round =>
      clear o2 b1 b2 d2 hs2
      obtain ⟨k, A1, c1, hk, rfl, rfl, rfl, ob, bb⟩ := hrel
      by_cases hlt : k < n
      · obtain ⟨b, o, A2, n2, c2, rfl, hbB, q0, q1, hr⟩ := (h.below (bb.mono hB) hB').at_ hlt
        have hmem := getD_mem (fs := fs) (k := k) (by omega)
        have hd := hsm _ hmem
        obtain ⟨s1, s2, s3, s4⟩ := pack_step HP.out (k := k) (by omega)
        have hnx : Bt.packK fs (List.replicate nb 0) (k + 1) = Bt.putF (Bt.packK fs (List.replicate nb 0) k) (Bt.sumK (Bt.bitsOf fs) k).toNat (Oct.le (fs.getD k Bt.Fld.zero).data) (fs.getD k Bt.Fld.zero).bits.toNat := rfl
        generalize fs.getD k Bt.Fld.zero = f at *
        generalize Bt.packK fs (List.replicate nb 0) k = L at *
        obtain ⟨m, l⟩ := f
        dsimp only at *
        obtain rfl : l.length = n2 := hr.len
        have hval := Bt.okF_val s1
        obtain ⟨g1, g2, g3, g4⟩ := Bt.okF_fits s1
        dsimp only at g1 g2 g3 g4
        obtain ⟨P, hP⟩ : ∃ P : Nat, Bt.sumK (Bt.bitsOf fs) k = (P : Int) := ⟨_, (Int.toNat_of_nonneg s2).symm⟩
        obtain ⟨M, rfl⟩ : ∃ M : Nat, m = (M : Int) := ⟨m.toNat, by omega⟩
        have hle := Oct.le_lt l
        have hle2 : Oct.le l < 18446744073709551616 := by
          have h8 : l.length ≤ 8 := by have := Bt.bytesS_pos g1 g2; omega
          exact Nat.lt_of_lt_of_le hle (Nat.le_trans (Nat.pow_le_pow_right (by decide) h8) (by decide))
        have b1 := alloc_one wr (.cells #[.int .i64 (M : Int), .slice A2 l.length c2] 80)
        have F := (Blk.new wr 80 #[.int .i64 (M : Int), .slice A2 l.length c2]).two
        have hz := bb.size
        have V := value_any (M : Int) _ (hr.below (b1.mono (Nat.le_trans hB' (Nat.le_trans hB hz)))) hd (Nat.le_trans hB' (Nat.le_trans hB (Nat.le_trans hz b1.size))) (by omega)
        rw [hval] at V
        dsimp only at V
        replace V := Lib.hid V
        rw [hP] at s3 s2 hnx ⊢
        rw [← s3] at s4
        rw [Int.toNat_natCast, Int.toNat_natCast] at hnx
        have PU := fun (w2 : World) (h : Below wr.heap.size wr w2) => BPut_ok P M (Oct.le l) w2 ((ob.below h).rb) (by omega) (Nat.le_refl _) hle2 (by omega) (by omega) (by omega) g4
        replace PU := Lib.hid PU
        have HN := Lib.hid hnx; have HS := Lib.hid s3
        clear hnx s3 hval hle hP s1 g3 g4 hr
        generalize Oct.le l = v at *
        go_wp2_with fail
        refine (V.out).mono ?_
        rintro e w1 ⟨rfl, b2⟩
        have K := Blk.made b2
        have F2 := K.two
        clear F
        have d1 := below_step b1 b2 (Nat.le_refl _)
        go_wp2_with fail
        refine (PU.out w1 d1).mono ?_
        rintro e w3 ⟨A3, c3, rfl, o3, b3⟩
        have F3 := (K.later b3).two
        clear F2
        have d3 := below_step d1 b3 (Nat.le_refl _)
        go_wp2_with fail
        go_roundw
        case rel => exact ⟨k + 1, A3, c3, by omega, by go_num, rfl, by rw [← HS.out], by rw [HN.out]; exact o3.more (Nat.le_trans hz d1.size), below_step bb d3 (Nat.le_refl _)⟩
        case measure => simp [intOf] <;> omega
      · obtain rfl : k = n := by omega
        go_wp2_with fail
        go_ret2
        exact pack_fine (by rw [HPK.out, HB1.out, hl, Int.toNat_natCast]) (by rw [Bt.packK_length, List.length_replicate]) ob bb
  · have hx' : (x != 0) = true := by simpa using hx
    have HX := Lib.hid hx; clear hx
    go_enter Try.func32, Try.ntmps32
    go_wp2_with fail
    refine (T.out).mono ?_
    rintro e w1 ⟨rfl, b1⟩
    go_wp2_with fail
    go_ret2
    exact pack_bad (packS_bad HP.out HX.out) b1
/-- What the reference's first loop has: it adds no more above 64. -/
structure RTotRel (ws : List Int) (ok : List Bool) (k : Nat) (s : Int) : Prop where
  lo : 0 ≤ s
  hi : s ≤ 128
  sum : s ≤ 64 → s = Bt.sumK ws k
  big : 65 ≤ s → 65 ≤ Bt.sumK ws k
  all : ∀ i, i < k → ok.getD i false = true
theorem rtot_start (ws : List Int) (ok : List Bool) : RTotRel ws ok 0 0 := ⟨by omega, by omega, fun _ => rfl, fun h => by omega, fun _ h => absurd h (by omega)⟩
theorem RTotRel.next {ws : List Int} {ok : List Bool} {k : Nat} {s x : Int} (h : RTotRel ws ok k s) (h1 : 1 ≤ x) (h2 : x ≤ 64) (hx : ws.getD k 0 = x) (ho : ok.getD k false = true) (s' : Int) (hs : (s ≤ 64 ∧ s' = s + x) ∨ (65 ≤ s ∧ s' = s)) : RTotRel ws ok (k + 1) s' := by
  have a := h.lo
  have b := h.hi
  refine ⟨by omega, by omega, fun h64 => ?_, fun h65 => ?_, fun i hi => ?_⟩
  · have := h.sum (by omega)
    rw [Bt.sumK, hx]
    omega
  · rw [Bt.sumK, hx]
    by_cases e : 65 ≤ s
    · have := h.big e
      omega
    · have := h.sum (by omega)
      omega
  · rcases Nat.lt_or_ge i k with hi' | hi'
    · exact h.all i hi'
    · obtain rfl : i = k := by omega
      exact ho
theorem RTotRel.toBig {ws : List Int} {ok : List Bool} {k : Nat} {s : Int} (h : RTotRel ws ok k s) (hw : ws.length = k) (ho : ok.length = k) (hs : 65 ≤ s) : Bt.totS ws ok = (0, 3) :=
  tot_big (fun i hi => h.all i (by omega)) (by rw [hw]; have := h.big hs; omega)
theorem RTotRel.fine {ws : List Int} {ok : List Bool} {k : Nat} {s : Int} (h : RTotRel ws ok k s) (hw : ws.length = k) (ho : ok.length = k) (hs : s ≤ 64) : Bt.totS ws ok = (s, 0) := by
  have e := h.sum hs
  rw [tot_ok (fun i hi => h.all i (by omega)) (by rw [hw]; omega), hw, ← e]
end Go.Proofs.Ytbmocffnnlfnjaa
/-
  Walks: Gather of layer 30.
  Conditions: none.
-/
namespace Go.Proofs.Ytbmocffnnlfnjaa
set_option linter.unusedVariables false
set_option linter.unusedSimpArgs false
open Go.RowKit
theorem PeekP.any {v : Option (List UInt8)} {w w' : World} {e : Ending} (h : PeekP v w e w') : ∃ A c b, e = .returned (.tuple #[.slice A (v.getD []).length c, .bool b]) ∧ OB w' w.heap.size A (v.getD []).length c (v.getD []) ∧ Below w.heap.size w w' ∧ b = v.isSome := by
  cases v with
  | none => exact ⟨none, 0, false, h.1, OB.none_ _ _, h.2, rfl⟩
  | some l => obtain ⟨A, c, h1, h2, h3⟩ := h; exact ⟨A, c, true, h1, h2, h3, rfl⟩
set_option maxRecDepth 100000 in
set_option maxHeartbeats 4000000 in
theorem Gather_any {F : Nat → Prop} {w : World} {g gv lc vc : Nat} {la : Addr} {vA : Option Addr} {xs vs : List Value} {D : Dc.Dic} {A : Option Addr} {n c B : Nat} {ws : List Nat} (h : DRt 62 w F g gv (some la) lc vA vc xs vs D) (hd : ∀ e ∈ D.l, e.dflt.length ≤ 1000000) (hv : ∀ v ∈ D.v, v.length ≤ 1000000) (hw : RW w B A n c ws) (hwl : ∀ x ∈ ws, x < 4294967296) (hB : B ≤ w.heap.size) : Calls Try.prog 18 #[.pointer (some ⟨g, 0, none⟩), .slice A n c] w (PackPost (Mp.gatherS D ws) w) := by
  have hl := hw.len
  have RI := MRight_any false h hd hw hwl hB
  have hgs : Mp.gatherS D ws = if Mp.checkS D.l false ws ≠ 0 then ([], 4) else Bt.packS (Mp.fldsS D ws) := rfl
  have hce := Mp.check_each (l := D.l) (inn := false) (ws := ws)
  generalize Mp.checkS D.l false ws = r at *
  by_cases hr : r = 0
  · subst hr
    simp only [ne_eq, not_true_eq_false, if_false] at hgs RI
    rw [hgs]
    have h8 : n ≤ 8 := by rw [← hl]; exact (hce rfl).1
    clear hgs hce
    replace RI := Lib.hid RI
    have HL := Lib.hid hl
    clear hl
    go_enter Try.func18, Try.ntmps18
    go_wp2_with fail
    refine (RI.out).mono ?_
    rintro e w1 ⟨rfl, b1⟩
    go_wp2_with fail
    go_loopw [7, 23] (fun v i wr => ∃ (k : Nat) (A1 : Option Addr) (c1 : Nat), k ≤ n ∧ i = .int .i64 k ∧ v = .slice A1 k c1 ∧ OS (FlW wr w.heap.size) wr w.heap.size 80 2 A1 k c1 (Mp.fldsS D (ws.take k)) ∧ Below w.heap.size w wr) (fun _ i _ => n - (intOf i).toNat)
    case atStart => exact ⟨0, _, _, by omega, rfl, rfl, OS.none_ _ _ _ _, b1⟩
    case round =>
      clear b1
      obtain ⟨k, A1, c1, hk, rfl, rfl, os, bb⟩ := hrel
      by_cases hlt : k < n
      · obtain ⟨b, o, rfl, hbB, q0⟩ := (hw.below (bb.mono hB)).at_ hlt
        have SP := MSplit_any (ws.getD k 0) (word_lt hwl k) wr
        have PK := dPeek_any (Mp.ix (ws.getD k 0)) (Mp.sb (ws.getD k 0)) (h.below bb) hv
        have hnx := Mp.flds_take D ws (k := k) (by rw [HL.out]; exact hlt)
        have hpb := Mp.peek_bound hv (Mp.ix (ws.getD k 0)) (Mp.sb (ws.getD k 0))
        have hbt := Mp.bt_le (ws.getD k 0)
        unfold Mp.fld at hnx
        generalize ws.getD k 0 = x at *
        have HN := Lib.hid hnx
        clear hnx
        generalize Dc.peekS D (Mp.ix x) (Mp.sb x) = pv at *
        generalize (Mp.ix x : Int) = ixx at SP PK
        generalize (Mp.sb x : Int) = sbx at SP PK
        replace SP := Lib.hid SP; replace PK := Lib.hid PK
        go_wp2_with fail
        refine (SP.out).mono ?_
        rintro e w1 ⟨rfl, rfl⟩
        go_wp2_with fail
        refine (PK.out).mono ?_
        intro e w2 hpk
        obtain ⟨A2, c2, bq, rfl, o2, b2, _⟩ := hpk.any
        generalize pv.getD [] = l2 at *
        have d2 := below_step bb b2 (Nat.le_refl _)
        have os1 := os.below b2 (R' := FlW w2 w.heap.size) fun _ _ h => h.below b2
        have ow := (o2.ow).more (base' := w.heap.size) bb.size
        clear o2 hpk
        go_wp2_with (at_builtin; refine wpList_apps etfl (fun w1 => FlW w1 w.heap.size) rfl (.tmp 40) (.tmp 44) rfl rfl rfl rfl w.heap.size os1 ⟨(Mp.bt x : Int), l2⟩ ⟨A2, l2.length, c2, rfl, ow⟩ rfl (field_oneCell _ _ _ _) (by omega) (by omega) d2.size (fun w1 A1 n1 c1 xs h g f cs hf => hf.beside h (by decide) g) ?_; intro A3 c3 w3 os3 b3 g3 _)
        go_roundw
        case rel => exact ⟨k + 1, A3, c3, by omega, by go_num, rfl, by rw [HN.out]; exact os3, d2.trans b3⟩
        case measure => simp [intOf] <;> omega
      · obtain rfl : k = n := by omega
        have hall : ws.take k = ws := List.take_of_length_le (by rw [HL.out]; omega)
        rw [hall] at os
        have rf : RFl wr wr.heap.size wr.heap.size A1 k c1 (Mp.fldsS D ws) := os.rs.imp fun _ _ h => h.flc
        have hfb := Mp.flds_bound hv ws
        have PA := Pack_any wr rf (by omega) (Nat.le_refl _) (Nat.le_refl _) (fun f hf => (hfb f hf).1) (fun f hf => by have := (hfb f hf).2; omega)
        unfold PackPost at PA ⊢
        generalize Bt.packS (Mp.fldsS D ws) = pk at *
        replace PA := Lib.hid PA
        clear hfb rf os hall
        go_wp2_with fail
        refine (PA.out).mono ?_
        rintro e w2 ⟨A2, c2, rfl, o2, b2⟩
        go_wp2_with fail
        go_ret2
        exact ⟨A2, c2, rfl, o2.more bb.size, below_step bb b2 (Nat.le_refl _)⟩
  · simp only [ne_eq, hr, not_false_eq_true, if_true] at hgs RI
    rw [hgs]
    clear hgs hce hr hl
    replace RI := Lib.hid RI
    go_enter Try.func18, Try.ntmps18
    go_wp2_with fail
    refine (RI.out).mono ?_
    rintro e w1 ⟨rfl, b1⟩
    go_wp2_with fail
    go_ret2
    exact pack_bad rfl b1
end Go.Proofs.Ytbmocffnnlfnjaa
/-
  Layer 10 as plain functions: frames, their texts, their order.
  Conditions: none.
-/
namespace Go.Proofs.Ytbmocffnnlfnjaa.Can
set_option linter.unusedVariables false
set_option linter.unusedSimpArgs false
open Oct
structure Fr where
  id : Int
  rem : Bool
  data : List UInt8
def zero : Fr := ⟨0, false, []⟩
def checkN (id : Int) (r : Bool) (n : Nat) : Int := if id < 0 ∨ 2047 < id then 9 else if 8 < n then 3 else if r = true ∧ 0 < n then 4 else 0
def check (f : Fr) : Int := checkN f.id f.rem f.data.length
def beforeN (i : Int) (r : Bool) (i' : Int) (r' : Bool) : Bool := decide (i < i') || (decide (i = i') && !r && r')
def before (a b : Fr) : Bool := beforeN a.id a.rem b.id b.rem
def sameB (a b : Fr) : Bool := decide (a.id = b.id) && (a.rem == b.rem) && (a.data == b.data)
theorem checkN_lt {i : Int} {r : Bool} {n : Nat} (h : checkN i r n = 0) : 0 ≤ i ∧ i ≤ 2047 ∧ n ≤ 8 ∧ (r = true → n = 0) := by
  unfold checkN at h
  split at h
  · cases h
  · split at h
    · cases h
    · split at h
      · cases h
      · rename_i h1 h2 h3
        refine ⟨by omega, by omega, by omega, fun hr => ?_⟩
        rcases Nat.eq_zero_or_pos n with h0 | h0
        · exact h0
        · exact absurd ⟨hr, h0⟩ h3
theorem checkN_zero {i : Int} {r : Bool} {n : Nat} (h1 : 0 ≤ i) (h2 : i ≤ 2047) (h3 : n ≤ 8) (h4 : r = true → n = 0) : checkN i r n = 0 := by
  unfold checkN
  rw [if_neg (by omega), if_neg (by omega), if_neg (fun h => by have := h4 h.1; omega)]
theorem checkN_range (i : Int) (r : Bool) (n : Nat) : checkN i r n = 0 ∨ checkN i r n = 3 ∨ checkN i r n = 4 ∨ checkN i r n = 9 := by
  unfold checkN
  split
  · simp
  · split
    · simp
    · split <;> simp
theorem sameB_iff (a b : Fr) : sameB a b = true ↔ a = b := by
  obtain ⟨i, r, l⟩ := a
  obtain ⟨i', r', l'⟩ := b
  unfold sameB
  simp [and_assoc]
theorem sameB_refl (a : Fr) : sameB a a = true := (sameB_iff a a).2 rfl

/-- An Id's three digits. -/
def idS (i : Int) : List UInt8 := [dig ((i / 256).toNat % 16), dig ((i % 256).toNat / 16), dig ((i % 256).toNat % 16)]
def showS (f : Fr) : List UInt8 × Int := if check f = 0 then (idS f.id ++ [35] ++ (if f.rem = true then [82] else hexS f.data), 0) else ([], check f)
/-- The Id with which a text begins. -/
def id3 (s : List UInt8) : Option Nat :=
  match nib (s.getD 0 0), nib (s.getD 1 0), nib (s.getD 2 0) with
  | some x, some y, some z => some (256 * x + 16 * y + z)
  | _, _, _ => none
def nv (c : UInt8) : Nat := (nib c).getD 0
def idv (s : List UInt8) : Nat → Nat
  | 0 => 0
  | k + 1 => 16 * idv s k + nv (s.getD k 0)
theorem nv_lt (c : UInt8) : nv c < 16 := by
  unfold nv
  cases h : nib c with
  | none => decide
  | some k => exact nib_lt h
theorem idv_lt (s : List UInt8) : ∀ k, idv s k < 16 ^ k
  | 0 => by simp [idv]
  | k + 1 => by
    have h1 := idv_lt s k
    have h2 := nv_lt (s.getD k 0)
    rw [idv, Nat.pow_succ]
    omega
def idOk (s : List UInt8) : Prop := 4 ≤ s.length ∧ s.getD 3 0 = 35 ∧ ∀ j, j < 3 → nib (s.getD j 0) ≠ none
theorem id3_ok {s : List UInt8} (h : ∀ j, j < 3 → nib (s.getD j 0) ≠ none) : id3 s = some (idv s 3) := by
  have h0 := h 0 (by omega); have h1 := h 1 (by omega); have h2 := h 2 (by omega)
  unfold id3
  cases e0 : nib (s.getD 0 0) with
  | none => exact absurd e0 h0
  | some x => cases e1 : nib (s.getD 1 0) with
    | none => exact absurd e1 h1
    | some y => cases e2 : nib (s.getD 2 0) with
      | none => exact absurd e2 h2
      | some z =>
        simp only [idv, nv, e0, e1, e2, Option.getD_some]
        congr 1
        omega
theorem id3_bad {s : List UInt8} {j : Nat} (hj : j < 3) (h : nib (s.getD j 0) = none) : id3 s = none := by
  unfold id3
  rcases (show j = 0 ∨ j = 1 ∨ j = 2 by omega) with rfl | rfl | rfl <;> rw [h]
  · cases nib (s.getD 0 0) <;> rfl
  · cases nib (s.getD 0 0) <;> cases nib (s.getD 1 0) <;> rfl
def chk (f : Fr) : Fr × Int := if check f = 0 then (f, 0) else (zero, check f)
def parseS (s : List UInt8) : Fr × Int :=
  if 4 ≤ s.length ∧ s.getD 3 0 = 35 then
    match id3 s with
    | none => (zero, 4)
    | some n => if s.drop 4 = [82] then chk ⟨n, true, []⟩ else
      match pairs (s.drop 4) with
      | none => (zero, 4)
      | some d => chk ⟨n, false, d⟩
  else (zero, 4)
theorem parseS_bad {s : List UInt8} (h : ¬ idOk s) : parseS s = (zero, 4) := by
  unfold parseS
  split
  · rename_i h1
    have : ∃ j, j < 3 ∧ nib (s.getD j 0) = none := by
      apply Classical.byContradiction
      intro hc
      exact h ⟨h1.1, h1.2, fun j hj e => hc ⟨j, hj, e⟩⟩
    obtain ⟨j, hj, e⟩ := this
    rw [id3_bad hj e]
  · rfl
theorem parseS_ok {s : List UInt8} (h : idOk s) : parseS s = if s.drop 4 = [82] then chk ⟨(idv s 3 : Nat), true, []⟩ else
      match pairs (s.drop 4) with
      | none => (zero, 4)
      | some d => chk ⟨(idv s 3 : Nat), false, d⟩ := by
  unfold parseS
  rw [if_pos ⟨h.1, h.2.1⟩, id3_ok h.2.2]
theorem take3 {s : List UInt8} (h : 4 ≤ s.length) : s.take 3 = [s.getD 0 0, s.getD 1 0, s.getD 2 0] := by
  match s, h with
  | a :: b :: c :: d :: r, _ => rfl
theorem pairs_id {s : List UInt8} (h : 4 ≤ s.length) (hn : ∀ j, j < 3 → nib (s.getD j 0) ≠ none) :
    ∃ x y : UInt8, pairs (48 :: s.take 3) = some [x, y] ∧ 256 * x.toNat + y.toNat = idv s 3 := by
  rw [take3 h]
  have h0 := hn 0 (by omega); have h1 := hn 1 (by omega); have h2 := hn 2 (by omega)
  cases e0 : nib (s.getD 0 0) with
  | none => exact absurd e0 h0
  | some x => cases e1 : nib (s.getD 1 0) with
    | none => exact absurd e1 h1
    | some y => cases e2 : nib (s.getD 2 0) with
      | none => exact absurd e2 h2
      | some z =>
        have a := nib_lt e0; have b := nib_lt e1; have c := nib_lt e2
        have e48 : nib 48 = some 0 := by decide
        refine ⟨UInt8.ofNat (16 * 0 + x), UInt8.ofNat (16 * y + z), ?_, ?_⟩
        · simp only [pairs, e48, e0, e1, e2]
        · simp only [idv, nv, e0, e1, e2, Option.getD_some, UInt8.toNat_ofNat']
          omega
theorem pairs_id_bad {s : List UInt8} (h : 4 ≤ s.length) {j : Nat} (hj : j < 3) (hb : nib (s.getD j 0) = none) : pairs (48 :: s.take 3) = none := by
  rw [take3 h]
  have e48 : nib 48 = some 0 := by decide
  rcases (show j = 0 ∨ j = 1 ∨ j = 2 by omega) with rfl | rfl | rfl
  · simp only [pairs, e48, hb]
  · simp only [pairs, hb]
    cases nib (s.getD 0 0) <;> rfl
  · simp only [pairs, hb]
    cases nib (s.getD 0 0) <;> cases nib (s.getD 1 0) <;> rfl
/-- The first line, and the rest behind it. -/
def lineS : List UInt8 → Option (List UInt8 × List UInt8)
  | [] => none
  | c :: s => if c = 10 then some ([], s) else match lineS s with
    | none => none
    | some (a, b) => some (c :: a, b)
theorem lineS_len : ∀ {s a b : List UInt8}, lineS s = some (a, b) → s = a ++ 10 :: b
  | [], _, _, h => by simp [lineS] at h
  | c :: s, a, b, h => by
    unfold lineS at h
    split at h
    · rename_i hc
      injection h with h
      injection h with h1 h2
      subst h1 h2 hc
      rfl
    · split at h
      · cases h
      · rename_i a' b' he
        injection h with h
        injection h with h1 h2
        subst h1 h2
        rw [lineS_len he]
        rfl
/-- The frames of a text: the frames so far in l. -/
def linesF : Nat → List UInt8 → List Fr → List Fr × Int × Nat
  | 0, _, l => (l, 0, 0)
  | k + 1, s, l => if s = [] then (l, 0, 0) else match lineS s with
    | none => ([], 4, l.length)
    | some (a, b) => if (parseS a).2 = 0 then linesF k b (l ++ [(parseS a).1]) else ([], (parseS a).2, l.length)
def linesS (s : List UInt8) : List Fr × Int × Nat := linesF (s.length + 1) s []
def textF : List Fr → List UInt8 → List UInt8 × Int
  | [], t => (t, 0)
  | f :: l, t => if (showS f).2 = 0 then textF l (t ++ ((showS f).1 ++ [10])) else ([], (showS f).2)
def textS (l : List Fr) : List UInt8 × Int := textF l []
def allB : List Fr → List Fr → Bool
  | [], [] => true
  | a :: l, b :: m => sameB a b && allB l m
  | _, _ => false
end Go.Proofs.Ytbmocffnnlfnjaa.Can
/-
  Frames in memory: an argument that is a frame, a slice of frames.
  Conditions: none.
-/
namespace Go.Proofs.Ytbmocffnnlfnjaa
set_option linter.unusedVariables false
set_option linter.unusedSimpArgs false
open Go.ChangeShapes Go.WideShapes Go.ChangeAt Go.RowKit
theorem alloc_three (w : World) (o o' o'' : Obj) : Below w.heap.size w (((w.alloc o).alloc o').alloc o'') := ((((Below.refl _ w).alloc (Nat.le_refl _) o).alloc (by simp) o').alloc (by simp; omega) o'')
/-- The cells of a frame. -/
def FrC (w : World) (B : Nat) (f : Can.Fr) (cs : List Value) : Prop := ∃ A n c, cs = [.int .i64 f.id, .bool f.rem, .slice A n c] ∧ RB w B A n c f.data
theorem FrC.keep {w w' : World} {B : Nat} {f : Can.Fr} {cs : List Value} (h : FrC w B f cs) (hk : ∀ p : Addr, p.block < B → w'.cell? p = w.cell? p) : FrC w' B f cs := by
  obtain ⟨A, n, c, h1, h2⟩ := h
  exact ⟨A, n, c, h1, h2.keep hk⟩
theorem FrC.below {w w' : World} {B : Nat} {f : Can.Fr} {cs : List Value} (h : FrC w B f cs) (hb : Below B w w') : FrC w' B f cs := h.keep fun _ hp => hb.cell hp
theorem FrC.more {w : World} {B B' : Nat} {f : Can.Fr} {cs : List Value} (h : FrC w B f cs) (hB : B ≤ B') : FrC w B' f cs := by
  obtain ⟨A, n, c, h1, h2⟩ := h
  exact ⟨A, n, c, h1, h2.more hB⟩
theorem FrC.len {w : World} {B : Nat} {f : Can.Fr} {cs : List Value} (h : FrC w B f cs) : cs.length = 3 := by
  obtain ⟨A, n, c, rfl, _⟩ := h
  rfl
/-- A slice of frames. -/
def RF (w : World) (B : Nat) (A : Option Addr) (n c : Nat) (fs : List Can.Fr) : Prop := ∃ xs, RV w B 3 A n c xs ∧ Rows (FrC w B) 3 fs xs
section
variable {w w' : World} {B B' n c : Nat} {A : Option Addr} {fs : List Can.Fr}
theorem RF.len (h : RF w B A n c fs) : fs.length = n := by
  obtain ⟨xs, h1, h2⟩ := h
  have := h1.len
  have := h2.len
  omega
theorem RF.lt (h : RF w B A n c fs) : n ≤ 9223372036854775807 := by
  obtain ⟨xs, h1, h2⟩ := h
  exact Nat.le_trans h1.le h1.cap
theorem RF.below (h : RF w B A n c fs) (hb : Below B w w') : RF w' B A n c fs := by
  obtain ⟨xs, h1, h2⟩ := h
  exact ⟨xs, h1.below hb, h2.imp fun _ _ hr => hr.below hb⟩
theorem RF.keep (h : RF w B A n c fs) (hk : ∀ p : Addr, p.block < B → w'.cell? p = w.cell? p) : RF w' B A n c fs := by
  obtain ⟨xs, h1, h2⟩ := h
  exact ⟨xs, h1.keep hk, h2.imp fun _ _ hr => hr.keep hk⟩
theorem RF.more (h : RF w B A n c fs) (hB : B ≤ B') : RF w B' A n c fs := by
  obtain ⟨xs, h1, h2⟩ := h
  exact ⟨xs, h1.more hB, h2.imp fun _ _ hr => hr.more hB⟩
theorem RF.drew (h : RF w B A n c fs) : RF w.drew B A n c fs := h.keep fun _ _ => rfl
theorem RF.at_ (h : RF w B A n c fs) {i : Nat} (hi : i < n) : ∃ b o A' n' c', A = some ⟨b, o, none⟩ ∧ b < B ∧ w.cell? ⟨b, o + i * 3, none⟩ = some (.int .i64 (fs.getD i Can.zero).id) ∧
    w.cell? ⟨b, o + i * 3 + 1, none⟩ = some (.bool (fs.getD i Can.zero).rem) ∧ w.cell? ⟨b, o + i * 3 + 2, none⟩ = some (.slice A' n' c') ∧ RB w B A' n' c' (fs.getD i Can.zero).data := by
  have hl := h.len
  obtain ⟨xs, h1, h2⟩ := h
  obtain ⟨b, o, rfl, hb, hc⟩ := h1.at_ (by omega)
  have hf : fs[i]? = some (fs.getD i Can.zero) := by simp [List.getD, List.getElem?_eq_getElem (show i < fs.length by omega)]
  obtain ⟨A', n', c', e, hr⟩ := h2.2 i _ hf
  have e0 : ∀ j, ((xs.drop (i * 3)).take 3)[j]? = if j < 3 then xs[i * 3 + j]? else none := fun j => by rw [List.getElem?_take, List.getElem?_drop]
  rw [e] at e0
  refine ⟨b, o, A', n', c', rfl, hb, ?_, ?_, ?_, hr⟩
  · have := hc (i * 3) _ (by have := e0 0; simpa using this.symm)
    exact this
  · have := hc (i * 3 + 1) _ (by have := e0 1; simpa using this.symm)
    rw [← Nat.add_assoc] at this
    exact this
  · have := hc (i * 3 + 2) _ (by have := e0 2; simpa using this.symm)
    rw [← Nat.add_assoc] at this
    exact this
end
section
variable {H : Type} {enc : TypeId × Value → H} {w : World} {spare : Nat → Bool} {held : Bool}
set_option maxRecDepth 100000 in
theorem cells_frame {fuel : Nat} {cs : List Value} {x : DataW H × List MemPlace} (h : DataW.trod enc Try.prog w 0 spare held fuel 56 cs = some x) : ∃ f, FrC w w.heap.size f cs ∧ (Lit.int .i64 f.id).wf = true := by
  have h3 : cs.length = 3 := trod_len Try.underlying56 h (by kernel_rfl)
  match cs, h3 with
  | [a, b, d], _ =>
    obtain ⟨_, _, t0⟩ := trod_one Try.underlying56 h 0 3 0 a rfl (by kernel_rfl) rfl
    obtain ⟨_, _, t1⟩ := trod_one Try.underlying56 h 1 4 1 b rfl (by kernel_rfl) rfl
    obtain ⟨_, _, t2⟩ := trod_one Try.underlying56 h 2 49 2 d rfl (by kernel_rfl) rfl
    obtain ⟨i, rfl, hw⟩ := cell_int Try.underlying3 t0
    obtain ⟨r, rfl⟩ := cell_bool Try.underlying4 t1
    obtain ⟨A, n, c, l, rfl, hr⟩ := cell_bytes Try.underlying49 Try.underlying5 (by kernel_rfl) t2
    exact ⟨⟨i, r, l⟩, ⟨A, n, c, rfl, hr⟩, hw⟩
set_option maxRecDepth 100000 in
theorem open_frame {r : Reach} {b0 : Nat} {v : Value} {d : DataW H} {p : List MemPlace} (hv : Value.okWide Try.prog w r b0 56 v) (h : DataW.Trod enc Try.prog w 0 spare held 56 v d p) :
    ∃ (i : Int) (r : Bool) (A : Option Addr) (n c : Nat) (l : List UInt8), v = .agg #[.int .i64 i, .bool r, .slice A n c] ∧ (Lit.int .i64 i).wf = true ∧ RB w w.heap.size A n c l := by
  obtain ⟨cs, rfl, hsz⟩ := okWide_struct Try.underlying56 hv
  obtain ⟨fuel, hf⟩ := h
  obtain ⟨f, ⟨A, n, c, e, hr⟩, hw⟩ := cells_frame hf
  have e : cs.toList = [.int .i64 f.id, .bool f.rem, .slice A n c] := by simpa [Value.cells] using e
  refine ⟨f.id, f.rem, A, n, c, f.data, ?_, hw, hr⟩
  rw [← Array.toArray_toList (xs := cs), e]
end
end Go.Proofs.Ytbmocffnnlfnjaa
/-
  Walk: send of layer 32.
  Conditions: none.
-/
namespace Go.Proofs.Ytbmocffnnlfnjaa
set_option linter.unusedVariables false
set_option linter.unusedSimpArgs false
open Go.RowKit
/-- The frames that are sent: one or none. -/
def framesS (v : Nat) (o : Option (List UInt8)) : List Can.Fr := match o with | none => [] | some b => [⟨(Cob.pdo v : Int), false, b⟩]
def FrW (w : World) (base : Nat) (f : Can.Fr) (cs : List Value) : Prop := ∃ A n c, cs = [.int .i64 f.id, .bool f.rem, .slice A n c] ∧ OB w base A n c f.data
/-- A call that may send, its frames, and the PDO behind it. -/
def SendP (l : List Can.Fr) (base g gd v : Nat) (t inh ev : Int) (ws : List Nat) (Aw : Option Addr) (cw : Nat) (s : Tp.St) (w : World) (e : Ending) (w' : World) : Prop :=
  ∃ A c, e = .returned (.slice A l.length c) ∧ OS (FrW w' w.heap.size) w' w.heap.size 56 3 A l.length c l ∧ Mv (fun q => q = g) w w' ∧ TpM w' base g gd v t inh ev ws Aw cw s
theorem send_none {l : List Can.Fr} {base g gd v : Nat} {t inh ev : Int} {ws : List Nat} {Aw : Option Addr} {cw : Nat} {s : Tp.St} {w w' : World} (hl : l = []) (hm : Mv (fun q => q = g) w w') (h : TpM w' base g gd v t inh ev ws Aw cw s) : SendP l base g gd v t inh ev ws Aw cw s w (.returned (.slice none 0 0)) w' := by
  subst hl
  exact ⟨none, 0, rfl, OS.none_ _ _ _ _, hm, h⟩
set_option maxRecDepth 100000 in
set_option maxHeartbeats 4000000 in
theorem Send_any {F : Nat → Prop} {w : World} {base g gd v : Nat} {t inh ev : Int} {ws : List Nat} {Aw : Option Addr} {cw : Nat} {s : Tp.St} {gv lc vc : Nat} {la : Addr} {vA : Option Addr} {xs vs : List Value} {D : Dc.Dic} (h : TpM w base g gd v t inh ev ws Aw cw s) (hD : DRt 62 w F gd gv (some la) lc vA vc xs vs D) (hF : ∀ q, F q → q ≠ g) (hd : ∀ e ∈ D.l, e.dflt.length ≤ 1000000) (hv : ∀ v ∈ D.v, v.length ≤ 1000000) (hwl : ∀ x ∈ ws, x < 4294967296) :
    Calls Try.prog 27 #[.pointer (some ⟨g, 0, none⟩)] w (SendP (framesS v (Tp.bytesS D v ws)) base g gd v t inh ev ws Aw cw (Tp.sentS inh ev s) w) := by
  have F0 := h.blk.eleven
  have B0 : Blk w.drew g 46 #[.pointer (some ⟨gd, 0, none⟩), .int .u32 (v : Int), .int .i64 t, .int .i64 inh, .int .i64 ev, .slice Aw ws.length cw, .int .i64 (Cob.pdo v : Int), .bool s.due, .int .i64 s.hold, .int .i64 s.left, .int .i64 s.count] := h.blk
  have f0 := B0.eleven
  have B1 := B0.set_ 7 (.bool false)
  have f1 : (w.drew.setCell ⟨g, 7, none⟩ (.bool false)).frozen? ⟨g, 8, none⟩ = false := B1.frozen 8
  have c1 : (w.drew.setCell ⟨g, 7, none⟩ (.bool false)).cell? ⟨g, 8, none⟩ = some (.int .i64 s.hold) := B1.cell 8
  have B2 := B1.set_ 8 (.int .i64 inh)
  have f2 : ((w.drew.setCell ⟨g, 7, none⟩ (.bool false)).setCell ⟨g, 8, none⟩ (.int .i64 inh)).frozen? ⟨g, 9, none⟩ = false := B2.frozen 9
  have c2 : ((w.drew.setCell ⟨g, 7, none⟩ (.bool false)).setCell ⟨g, 8, none⟩ (.int .i64 inh)).cell? ⟨g, 9, none⟩ = some (.int .i64 s.left) := B2.cell 9
  have B3 := B2.set_ 9 (.int .i64 ev)
  obtain ⟨K, hK⟩ : ∃ K : World → Prop, K = fun x => x.cell? ⟨g, 3, none⟩ = some (.int .i64 inh) ∧ x.cell? ⟨g, 4, none⟩ = some (.int .i64 ev) := ⟨_, rfl⟩
  have hKe : ∀ x, K x → x.cell? ⟨g, 3, none⟩ = some (.int .i64 inh) ∧ x.cell? ⟨g, 4, none⟩ = some (.int .i64 ev) := by
    intro x hx
    rw [hK] at hx
    exact hx
  have hk0 : K w.drew := by rw [hK]; exact ⟨B0.cell 3, B0.cell 4⟩
  have hk1 : K (w.drew.setCell ⟨g, 7, none⟩ (.bool false)) := by rw [hK]; exact ⟨B1.cell 3, B1.cell 4⟩
  have hk2 : K ((w.drew.setCell ⟨g, 7, none⟩ (.bool false)).setCell ⟨g, 8, none⟩ (.int .i64 inh)) := by rw [hK]; exact ⟨B2.cell 3, B2.cell 4⟩
  have hk3 : K (((w.drew.setCell ⟨g, 7, none⟩ (.bool false)).setCell ⟨g, 8, none⟩ (.int .i64 inh)).setCell ⟨g, 9, none⟩ (.int .i64 ev)) := by rw [hK]; exact ⟨B3.cell 3, B3.cell 4⟩
  have k3 : ∀ v : Wk K ⟨w.drew, hk0⟩, v.val.cell? ⟨g, 3, none⟩ = some (.int .i64 inh) := fun v => (hKe _ v.ok).1
  have k4 : ∀ v : Wk K ⟨w.drew, hk0⟩, v.val.cell? ⟨g, 4, none⟩ = some (.int .i64 ev) := fun v => (hKe _ v.ok).2
  have W1 : OWt (((w.drew.setCell ⟨g, 7, none⟩ (.bool false)).setCell ⟨g, 8, none⟩ (.int .i64 inh)).setCell ⟨g, 9, none⟩ (.int .i64 ev)) base Aw ws.length cw ws := OV.off (OV.off (OV.off (show OV w.drew base 23 1 Aw ws.length cw _ from h.words) B0 (by decide)) B1 (by decide)) B2 (by decide)
  have M1 : Mv (fun q => q = g) w (((w.drew.setCell ⟨g, 7, none⟩ (.bool false)).setCell ⟨g, 8, none⟩ (.int .i64 inh)).setCell ⟨g, 9, none⟩ (.int .i64 ev)) := (((Mv.refl _ _).drew.trans (Mv.setCell w.drew ⟨g, 7, none⟩ _) (fun _ _ e => e)).trans (Mv.setCell _ ⟨g, 8, none⟩ _) (fun _ _ e => e)).trans (Mv.setCell _ ⟨g, 9, none⟩ _) (fun _ _ e => e)
  have T1 : TpM (((w.drew.setCell ⟨g, 7, none⟩ (.bool false)).setCell ⟨g, 8, none⟩ (.int .i64 inh)).setCell ⟨g, 9, none⟩ (.int .i64 ev)) base g gd v t inh ev ws Aw cw (Tp.sentS inh ev s) := ⟨h.gb, B3, W1⟩
  have hD1 := hD.mv M1 fun q _ hf => hF q hf
  clear B0 B1 B2 B3 W1 hD hK hKe h
  go_enter Try.func27, Try.ntmps27
  go_wp2_with fail
  refine region_wk 99 ⟨w.drew, hk0⟩ (by kernel_rfl) ?_
  refine phase_wk (by kernel_rfl) 7 hk0 [0, 1, 2, 3, 8, 4, 9, 5, 10, 6, 11, 7, 12, 13, 14] rfl (by kernel_rfl) ?_
  simp only [picks, nth]
  repeat (go_big_quiet_step (fail))
  refine wpQuiet_nil ?_
  refine phase_opL 15 6 rfl (by kernel_rfl) (by decide) ?_
  simp only [nth]
  go_wp2_with fail
  refine behind_wk hk1 ?_
  refine phase_wk (by kernel_rfl) 4 hk1 [16, 17] rfl (by kernel_rfl) ?_
  simp only [picks, nth]
  repeat (go_big_quiet_step (fail))
  refine wpQuiet_nil ?_
  refine phase_opL 18 3 rfl (by kernel_rfl) (by decide) ?_
  simp only [nth]
  go_wp2_with fail
  refine behind_wk hk2 ?_
  refine phase_wk (by kernel_rfl) 1 hk2 [19, 20] rfl (by kernel_rfl) ?_
  simp only [picks, nth]
  repeat (go_big_quiet_step (fail))
  refine wpQuiet_nil ?_
  refine phase_opL 21 0 rfl (by kernel_rfl) (by decide) ?_
  simp only [nth]
  go_wp2_with fail
  refine behind_wk hk3 ?_
  refine phase_endL (by kernel_rfl) ?_
  clear F0 f0 f1 c1 f2 c2 k3 k4 hk0 hk1 hk2 hk3
  have hw1 : ((w.drew.setCell ⟨g, 7, none⟩ (.bool false)).setCell ⟨g, 8, none⟩ (.int .i64 inh)).setCell ⟨g, 9, none⟩ (.int .i64 ev) = (((w.setCell ⟨g, 7, none⟩ (.bool false)).setCell ⟨g, 8, none⟩ (.int .i64 inh)).setCell ⟨g, 9, none⟩ (.int .i64 ev)).drew := rfl
  rw [hw1] at T1 hD1 M1
  clear hw1
  generalize (((w.setCell ⟨g, 7, none⟩ (.bool false)).setCell ⟨g, 8, none⟩ (.int .i64 inh)).setCell ⟨g, 9, none⟩ (.int .i64 ev)).drew = w1 at *
  have G1 := T1.blk.eleven
  have hlw := T1.words.rv.le
  have hcw := T1.words.rv.cap
  by_cases hpd : Cob.pdo v = 0
  · have e0 : (Cob.pdo v : Int) = 0 := by omega
    have HB := Lib.hid (show framesS v (Tp.bytesS D v ws) = [] by unfold Tp.bytesS; rw [if_pos (.inl hpd)]; rfl)
    rw [e0] at G1
    clear e0 hpd hD1
    go_wp2_with fail
    go_ret
    exact send_none HB.out M1 T1
  · have e1 : ((Cob.pdo v : Int) == 0) = false := by rw [beq_eq_false_iff_ne]; omega
    by_cases hws : ws.length = 0
    · have e2 : ((ws.length : Int) == 0) = true := by rw [hws]; rfl
      have HB := Lib.hid (show framesS v (Tp.bytesS D v ws) = [] by unfold Tp.bytesS; rw [if_pos (.inr hws)]; rfl)
      clear hpd hws hD1
      go_wp2_with fail
      go_ret
      exact send_none HB.out M1 T1
    · have e2 : ((ws.length : Int) == 0) = false := by rw [beq_eq_false_iff_ne]; omega
      have GA := Gather_any (hD1.below (below_drew w1)) hd hv ((OWt.rw T1.words).below (below_drew w1)) hwl (Nat.le_refl _)
      have hbs : Tp.bytesS D v ws = if (Mp.gatherS D ws).2 = 0 then some (Mp.gatherS D ws).1 else none := by unfold Tp.bytesS; rw [if_neg (by simp [hpd, hws])]
      unfold PackPost at GA
      generalize Mp.gatherS D ws = gs at *
      obtain ⟨gl, ge⟩ := gs
      dsimp only at GA hbs
      replace GA := Lib.hid GA
      have HBS := Lib.hid hbs
      have g0 := cell_regrown G1.1.1
      have g5 := cell_regrown (T1.blk.cell 5)
      clear hpd hws hD1 hbs
      go_wp2_with fail
      refine region_later (by kernel_rfl) ?_
      refine phase_later (by kernel_rfl) 6 (below_drew _) [0, 4, 1, 5, 2, 6, 3, 7, 8] rfl (by kernel_rfl) ?_
      simp only [picks, nth]
      repeat (go_big_quiet_step (fail))
      refine wpQuiet_nil ?_
      refine phase_op 9 5 rfl (by kernel_rfl) (by decide) ?_
      simp only [nth]
      go_wp2_with fail
      refine (GA.out).mono ?_
      rintro e w2 ⟨A2, c2, rfl, o2, b2⟩
      have b12 : Below w1.heap.size w1 w2 := (below_drew w1).trans b2
      go_wp2_with fail
      refine behind_later b12 ?_
      refine phase_later (by kernel_rfl) 0 (Below.refl _ _) [10, 11, 12, 13, 14] rfl (by kernel_rfl) ?_
      simp only [picks, nth]
      repeat (go_big_quiet_step (fail))
      refine wpQuiet_nil ?_
      refine phase_end (by kernel_rfl) ?_
      have T2 := T1.below b12
      have G2 := T2.blk.cell 6
      have M2 : Mv (fun q => q = g) w w2 := M1.trans (Mv.of_new b12 (fun q => q = g)) fun _ _ e => e
      clear G1 g0 g5 GA
      by_cases hge : ge = 0
      · subst hge
        have b3 := alloc_one w2 (.cells #[.int .i64 (Cob.pdo v : Int), .bool false, .slice A2 gl.length c2] 56)
        go_wp2_with fail
        go_ret
        have hb2 : Tp.bytesS D v ws = some gl := HBS.out
        rw [hb2]
        refine ⟨some ⟨w2.heap.size, 0, none⟩, 1, rfl, ?_, M2.trans (Mv.of_new b3 (fun q => q = g)) fun _ _ e => e, T2.below b3⟩
        have hz := M2.size
        refine ⟨[.int .i64 (Cob.pdo v : Int), .bool false, .slice A2 gl.length c2], OV.new w2 _ 1 rfl (by omega) hz, ?_⟩
        exact Rows.one ⟨A2, gl.length, c2, rfl, ((o2.below b3).more (Nat.le_trans M1.size (by simp)))⟩ rfl
      · have hge2 : (ge == 0) = false := by simpa using hge
        have hge3 : (ge != 0) = true := by simpa using hge
        have HG := Lib.hid hge
        clear hge
        go_wp2_with fail
        go_ret
        exact send_none (by rw [HBS.out, if_neg HG.out]; rfl) M2 T2
end Go.Proofs.Ytbmocffnnlfnjaa
