/-
  Texts joined: BitTot, BitPut, BitRefPut.
  Conditions: none.
-/
import Derived.Test.YtoplpmfdgaabfaaGreatJ12
/-
  Walks: the closures of Pack and Unpack, and total over them.
  Conditions: none.
-/
namespace Go.Proofs.YtoplpmfdgaabfaaGreat
set_option linter.unusedVariables false
set_option linter.unusedSimpArgs false
open Go.RowKit
set_option maxHeartbeats 1000000 in
theorem pack1_any {A : Option Addr} {n c B : Nat} {l : List UInt8} (m : Int) (w : World) (hb : RB w B A n c l) (hn : n ≤ 1000000) (hB : B ≤ w.heap.size) (hm : m ≤ 9223372036854775807) :
    Calls Tryz.prog 52 #[.agg #[.int .i64 m, .slice A n c]] w fun e w' => e = .returned (.tuple #[.int .i64 m, .bool (Bt.okF ⟨m, l⟩)]) ∧ Below w.heap.size w w' := by
  have b1 := alloc_one w (.cells #[.int .i64 m, .slice A n c] 67)
  have F := (Blk.new w 67 #[.int .i64 m, .slice A n c]).two
  have C := value_any m _ (hb.below (b1.mono hB)) hn (Nat.le_trans hB b1.size) hm
  unfold Bt.okF
  generalize (Bt.valS ⟨m, l⟩).1 = v at *
  generalize (Bt.valS ⟨m, l⟩).2 = x at *
  replace C := Lib.hid C
  clear hb
  go_enter Tryz.func52, Tryz.ntmps52
  go_wp2_with fail
  refine (C.out).mono ?_
  rintro e w1 ⟨rfl, b2⟩
  have K := Blk.made b2
  have F2 := K.two
  clear F
  go_wp2_with fail
  go_ret2
  exact ⟨rfl, below_step b1 b2 (Nat.le_refl _)⟩
theorem unpack1_any (m : Int) (w : World) : Calls Tryz.prog 64 #[.int .i64 m] w fun e w' => e = .returned (.tuple #[.int .i64 m, .bool (Bt.okW m)]) ∧ w = w' := by
  by_cases h1 : 1 ≤ m
  · by_cases h2 : m ≤ 64
    · rw [show Bt.okW m = true from Bt.okW_iff.2 ⟨h1, h2⟩]
      go_enter Tryz.func64, Tryz.ntmps64
      go_wp2_with fail
      go_ret2
      exact ⟨rfl, rfl⟩
    · rw [show Bt.okW m = false by unfold Bt.okW; exact decide_eq_false (by omega)]
      go_enter Tryz.func64, Tryz.ntmps64
      go_wp2_with fail
      go_ret2
      exact ⟨rfl, rfl⟩
  · rw [show Bt.okW m = false by unfold Bt.okW; exact decide_eq_false (by omega)]
    go_enter Tryz.func64, Tryz.ntmps64
    go_wp2_with fail
    go_ret2
    exact ⟨rfl, rfl⟩
theorem tot_bad {ws : List Int} {ok : List Bool} {i : Nat} (hi : i < ok.length) (h : ok.getD i false = false) : Bt.totS ws ok = (0, 1) := by
  unfold Bt.totS
  rw [Bt.all_not hi h]
  rfl
theorem tot_big {ws : List Int} {ok : List Bool} (h : ∀ i, i < ok.length → ok.getD i false = true) (hs : 64 < Bt.sumK ws ws.length) : Bt.totS ws ok = (0, 3) := by
  unfold Bt.totS
  rw [Bt.all_of h, if_pos rfl, if_pos hs]
theorem tot_ok {ws : List Int} {ok : List Bool} (h : ∀ i, i < ok.length → ok.getD i false = true) (hs : Bt.sumK ws ws.length ≤ 64) : Bt.totS ws ok = (Bt.sumK ws ws.length, 0) := by
  unfold Bt.totS
  rw [Bt.all_of h, if_pos rfl, if_neg (by omega)]
def TotPost (p : Int × Int) (w : World) (e : Ending) (w' : World) : Prop := e = .returned (.tuple #[.int .i64 p.1, .int .i64 p.2]) ∧ Below w.heap.size w w'
theorem tot_mk {p : Int × Int} {w w' : World} {a b : Int} (h : p = (a, b)) (hb : Below w.heap.size w w') : TotPost p w (.returned (.tuple #[.int .i64 a, .int .i64 b])) w' := by
  subst h; exact ⟨rfl, hb⟩
/-- What the loop over the first k has: their bits in all, cut at 65. -/
structure TotRel (ws : List Int) (ok : List Bool) (k : Nat) (s : Int) : Prop where
  lo : 0 ≤ s
  hi : s ≤ 65
  sum : s ≤ 64 → s = Bt.sumK ws k
  big : s = 65 → 65 ≤ Bt.sumK ws k
  all : ∀ i, i < k → ok.getD i false = true
theorem tot_start (ws : List Int) (ok : List Bool) : TotRel ws ok 0 0 := ⟨by omega, by omega, fun _ => rfl, fun h => by omega, fun _ h => absurd h (by omega)⟩
theorem TotRel.next {ws : List Int} {ok : List Bool} {k : Nat} {s x : Int} (h : TotRel ws ok k s) (h1 : 1 ≤ x) (hx : ws.getD k 0 = x) (ho : ok.getD k false = true) (s' : Int) (hs : (s + x ≤ 64 ∧ s' = s + x) ∨ (65 ≤ s + x ∧ s' = 65)) : TotRel ws ok (k + 1) s' := by
  have a := h.lo
  have b := h.hi
  refine ⟨by omega, by omega, fun h64 => ?_, fun h65 => ?_, fun i hi => ?_⟩
  · have := h.sum (by omega)
    rw [Bt.sumK, hx]
    omega
  · rw [Bt.sumK, hx]
    by_cases e : s = 65
    · have := h.big e
      omega
    · have := h.sum (by omega)
      omega
  · rcases Nat.lt_or_ge i k with hi' | hi'
    · exact h.all i hi'
    · obtain rfl : i = k := by omega
      exact ho
theorem TotRel.toBig {ws : List Int} {ok : List Bool} {k : Nat} (h : TotRel ws ok k 65) (hw : ws.length = k) (ho : ok.length = k) : Bt.totS ws ok = (0, 3) :=
  tot_big (fun i hi => h.all i (by omega)) (by rw [hw]; have := h.big rfl; omega)
theorem TotRel.fine {ws : List Int} {ok : List Bool} {k : Nat} {s : Int} (h : TotRel ws ok k s) (hw : ws.length = k) (ho : ok.length = k) (hs : s ≤ 64) : Bt.totS ws ok = (s, 0) := by
  have e := h.sum hs
  rw [tot_ok (fun i hi => h.all i (by omega)) (by rw [hw]; omega), hw, ← e]
set_option maxRecDepth 100000 in
set_option maxHeartbeats 2000000 in
theorem total_any {A : Option Addr} {n c B B' : Nat} {fs : List Bt.Fld} (w : World) (h : RFl w B B' A n c fs) (hn : n ≤ 1000000) (hB : B ≤ w.heap.size) (hB' : B' ≤ B) (hsm : ∀ f ∈ fs, f.data.length ≤ 1000000) (hm : ∀ f ∈ fs, f.bits ≤ 9223372036854775807) :
    Calls Tryz.prog 51 #[.func (.func 52) #[] #[], .slice A n c] w (TotPost (Bt.totS (Bt.bitsOf fs) (fs.map Bt.okF)) w) := by
  have hl := h.len
  go_enter Tryz.func51, Tryz.ntmps51
  go_wp2_with fail
  go_loopw [6, 13] (fun v u wr => ∃ (k : Nat) (s : Int), k ≤ n ∧ u = .int .i64 k ∧ v = .int .i64 s ∧ TotRel (Bt.bitsOf fs) (fs.map Bt.okF) k s ∧ Below w.heap.size w wr) (fun _ u _ => n - (intOf u).toNat)
  case atStart => exact ⟨0, 0, by omega, rfl, rfl, tot_start _ _, Below.refl _ _⟩
  case round =>
    obtain ⟨k, s, hk, rfl, rfl, hrel, hbel⟩ := hrel
    have hs1 := hrel.lo
    have hs2 := hrel.hi
    have HREL := Lib.hid hrel; clear hrel
    by_cases hlt : k < n
    · obtain ⟨b, o, A1, n1, c1, rfl, hbB, q0, q1, hr⟩ := (h.below (hbel.mono hB) hB').at_ hlt
      have hmem : fs.getD k Bt.Fld.zero ∈ fs := by
        have : k < fs.length := by omega
        rw [show fs.getD k Bt.Fld.zero = fs[k] by simp [List.getD, this]]
        exact List.getElem_mem this
      have hd := hsm _ hmem
      have hb := hm _ hmem
      have hok := Bt.okF_getD fs k
      have hbi := Bt.bitsOf_getD fs k
      generalize fs.getD k Bt.Fld.zero = f at *
      obtain ⟨m, l⟩ := f
      dsimp only at *
      obtain rfl : l.length = n1 := hr.len
      have b1 := alloc_one wr (.cells #[.int .i64 m, .slice A1 l.length c1] 67)
      have F := (Blk.new wr 67 #[.int .i64 m, .slice A1 l.length c1]).two
      have hz := hbel.size
      have C := pack1_any m _ (hr.below (b1.mono (Nat.le_trans hB' (Nat.le_trans hB hz)))) hd (Nat.le_trans hB' (Nat.le_trans hB (Nat.le_trans hz b1.size))) hb
      have hfb := fun h => Bt.okF_fits (f := ⟨m, l⟩) h
      generalize Bt.okF ⟨m, l⟩ = x at *
      replace C := Lib.hid C
      have HOK := Lib.hid hok; have HBI := Lib.hid hbi
      clear hok hbi hr hmem
      cases x with
      | false =>
        clear hfb
        go_wp2_with fail
        refine (C.out).mono ?_
        rintro e w1 ⟨rfl, b2⟩
        go_wp2_with fail
        go_ret2
        exact tot_mk (tot_bad (i := k) (by rw [List.length_map]; omega) HOK.out) (below_step hbel (below_step b1 b2 (Nat.le_refl _)) (Nat.le_refl _))
      | true =>
        obtain ⟨g1, g2, _⟩ := hfb rfl
        dsimp only at g1 g2
        clear hfb
        go_wp2_with fail
        refine (C.out).mono ?_
        rintro e w1 ⟨rfl, b2⟩
        go_wp2_with fail
        go_roundw
        case rel =>
          refine ⟨k + 1, _, by omega, by go_num, rfl, HREL.out.next g1 HBI.out HOK.out _ ?_, below_step hbel (below_step b1 b2 (Nat.le_refl _)) (Nat.le_refl _)⟩
          split <;> omega
        case measure => simp [intOf] <;> omega
    · obtain rfl : k = n := by omega
      by_cases h65 : s = 65
      · subst h65
        go_wp2_with fail
        go_ret2
        exact tot_mk (HREL.out.toBig (by simpa [Bt.bitsOf] using hl) (by simpa using hl)) hbel
      · have h64 : s ≤ 64 := by omega
        clear h65
        go_wp2_with fail
        go_ret2
        exact tot_mk (HREL.out.fine (by simpa [Bt.bitsOf] using hl) (by simpa using hl) h64) hbel
set_option maxRecDepth 100000 in
set_option maxHeartbeats 2000000 in
theorem totali_any {A : Option Addr} {n c B : Nat} {ws : List Int} (w : World) (h : RI w B A n c ws) (hn : n ≤ 1000000) (hm : ∀ x ∈ ws, x ≤ 9223372036854775807) :
    Calls Tryz.prog 63 #[.func (.func 64) #[] #[], .slice A n c] w fun e w' => e = .returned (.tuple #[.int .i64 (Bt.totS ws (ws.map Bt.okW)).1, .int .i64 (Bt.totS ws (ws.map Bt.okW)).2]) ∧ w = w' := by
  have hl := h.len
  generalize hres : Bt.totS ws (ws.map Bt.okW) = res
  have HRES := Lib.hid hres; clear hres
  go_enter Tryz.func63, Tryz.ntmps63
  go_wp2_with fail
  go_loopw [6, 13] (fun v u wr => ∃ (k : Nat) (s : Int), k ≤ n ∧ u = .int .i64 k ∧ v = .int .i64 s ∧ TotRel ws (ws.map Bt.okW) k s ∧ w = wr) (fun _ u _ => n - (intOf u).toNat)
  case atStart => exact ⟨0, 0, by omega, rfl, rfl, tot_start _ _, rfl⟩
  case round =>
    obtain ⟨k, s, hk, rfl, rfl, hrel, rfl⟩ := hrel
    have hs1 := hrel.lo
    have hs2 := hrel.hi
    have HREL := Lib.hid hrel; clear hrel
    by_cases hlt : k < n
    · obtain ⟨b, o, rfl, hbB, q0⟩ := h.at_ hlt
      have hmem : ws.getD k 0 ∈ ws := by
        have : k < ws.length := by omega
        rw [show ws.getD k 0 = ws[k] by simp [List.getD, this]]
        exact List.getElem_mem this
      have hb := hm _ hmem
      have hok := Bt.okW_getD ws k
      generalize hx : ws.getD k 0 = m at *
      have HX := Lib.hid hx
      have C := unpack1_any m w
      have hfb := fun h => (Bt.okW_iff (w := m)).1 h
      generalize Bt.okW m = x at *
      replace C := Lib.hid C
      have HOK := Lib.hid hok
      clear hok hx hmem
      cases x with
      | false =>
        clear hfb
        go_wp2_with fail
        refine (C.out).mono ?_
        rintro e _ ⟨rfl, rfl⟩
        go_wp2_with fail
        go_ret2
        exact ⟨by rw [← HRES.out, tot_bad (i := k) (by rw [List.length_map]; omega) HOK.out]; rfl, rfl⟩
      | true =>
        obtain ⟨g1, g2⟩ := hfb rfl
        clear hfb
        go_wp2_with fail
        refine (C.out).mono ?_
        rintro e _ ⟨rfl, rfl⟩
        go_wp2_with fail
        go_roundw
        case rel =>
          refine ⟨k + 1, _, by omega, by go_num, rfl, HREL.out.next g1 HX.out HOK.out _ ?_, by trivial⟩
          split <;> omega
        case measure => simp [intOf] <;> omega
    · obtain rfl : k = n := by omega
      by_cases h65 : s = 65
      · subst h65
        go_wp2_with fail
        go_ret2
        exact ⟨by rw [← HRES.out, HREL.out.toBig hl (by simpa using hl)]; rfl, rfl⟩
      · have h64 : s ≤ 64 := by omega
        clear h65
        go_wp2_with fail
        go_ret2
        exact ⟨by rw [← HRES.out, HREL.out.fine hl (by simpa using hl) h64]; rfl, rfl⟩
end Go.Proofs.YtoplpmfdgaabfaaGreat
/-
  Walks: bits.Put, the reference's Put.
  Conditions: none.
-/
namespace Go.Proofs.YtoplpmfdgaabfaaGreat
set_option linter.unusedVariables false
set_option linter.unusedSimpArgs false
open Go.RowKit
theorem test_bit (v k : Nat) (hv : v < 18446744073709551616) : (bits .and .u64 ((v : Int) / 2 ^ k) 1 == 1) = v.testBit k := by
  have e1 : (v : Int) / 2 ^ k = ((v / 2 ^ k : Nat) : Int) := by simp
  have hle : v / 2 ^ k ≤ v := Nat.div_le_self _ _
  have e2 : bits .and .u64 ((v : Int) / 2 ^ k) 1 = ((v / 2 ^ k % 2 : Nat) : Int) := by
    rw [e1]
    have := u64_and_nat (v / 2 ^ k) 1 (by omega) (by omega)
    rw [Nat.and_one_is_mod] at this
    exact this
  rw [e2, Nat.testBit_eq_decide_div_mod_eq]
  rw [Bool.eq_iff_iff]
  simp only [beq_iff_eq, decide_eq_true_eq]
  omega
theorem pow_byte {j : Nat} (hj : j < 8) : (2 : Int) ^ j % 256 = ((2 ^ j : Nat) : Int) ∧ 2 ^ j < 256 := by
  have h : 2 ^ j ≤ 2 ^ 7 := Nat.pow_le_pow_right (by decide) (by omega)
  have e : (2 : Int) ^ j = ((2 ^ j : Nat) : Int) := by simp
  rw [e]
  generalize 2 ^ j = q at *
  omega
theorem or_byte (c : UInt8) (j : Nat) (hj : j < 8) : bits .or .u8 (c.toNat : Int) ((2 : Int) ^ j % 256) = ((Bt.sb c j true).toNat : Int) := by
  obtain ⟨e, hlt⟩ := pow_byte hj
  have hc := c.toNat_lt
  have ho : c.toNat ||| 2 ^ j < 2 ^ 8 := Nat.or_lt_two_pow hc hlt
  rw [e, u8_or_nat _ _ (by omega) hlt, Bt.sb, if_pos rfl, UInt8.toNat_ofNat', Nat.mod_eq_of_lt ho]
theorem andNot_byte (c : UInt8) (j : Nat) (hj : j < 8) : bits .andNot .u8 (c.toNat : Int) ((2 : Int) ^ j % 256) = ((Bt.sb c j false).toNat : Int) := by
  obtain ⟨e, hlt⟩ := pow_byte hj
  have hc := c.toNat_lt
  have ho : c.toNat &&& (255 - 2 ^ j) < 2 ^ 8 := Nat.lt_of_le_of_lt Nat.and_le_left hc
  rw [e, u8_andNot_nat _ _ (by omega) hlt, Bt.sb, if_neg (by decide), UInt8.toNat_ofNat', Nat.mod_eq_of_lt ho]
set_option maxHeartbeats 1000000 in
theorem BPut_ok {A : Option Addr} {n c B : Nat} {l : List UInt8} (p m v : Nat) (w : World) (hb : RB w B A n c l) (hn : n ≤ 1000000) (hB : B ≤ w.heap.size) (hv : v < 18446744073709551616) (h1 : 1 ≤ m) (h2 : m ≤ 64) (h3 : p + m ≤ 8 * n) (hw : Bt.wideS v m = false) :
    Calls Tryz.prog 55 #[.slice A n c, .int .i64 (p : Int), .int .i64 (m : Int), .int .u64 (v : Int)] w fun e w' => ∃ A1 c1, e = .returned (.tuple #[.slice A1 n c1, .int .i64 0]) ∧ OB w' w.heap.size A1 n c1 (Bt.putF l p v m) ∧ Below w.heap.size w w' := by
  have C := room_any (A := A) (c := c) (p : Int) (m : Int) w hn
  rw [show Bt.roomS n p m = 0 by unfold Bt.roomS; rw [if_neg (by omega), if_neg (by omega)]] at C
  replace C := Lib.hid C
  have C2 := wide_any v (m : Int) w (by omega) (by omega)
  rw [hw] at C2
  replace C2 := Lib.hid C2
  clear hw
  go_enter Tryz.func55, Tryz.ntmps55
  go_wp2_with fail
  refine (C.out).mono ?_
  rintro e _ ⟨rfl, rfl⟩
  go_wp2_with fail
  refine (C2.out).mono ?_
  rintro e _ ⟨rfl, rfl⟩
  go_wp2_with (at_builtin; refine wpList_appb_nil etb rfl (.const (.slice none 0 0)) (.tmp 31) rfl rfl rfl w.heap.size hb (by omega) (Nat.le_refl _) ?_; intro A1 c1 w1 o1 b1)
  go_loopw [34] (fun u wr => ∃ k : Nat, k ≤ m ∧ u = .int .i64 k ∧ OB wr w.heap.size A1 n c1 (Bt.putF l p v k) ∧ Below w.heap.size w wr) (fun u _ => m - (intOf u).toNat)
  case atStart => exact ⟨0, by omega, rfl, o1, b1⟩
  case round =>
    clear o1 b1
    obtain ⟨k, hk, rfl, ob, bb⟩ := hrel
    by_cases hlt : k < m
    · obtain ⟨g, rfl, hg1, hg2⟩ := OV.head (e := 5) (size := 1) ob (show 0 < n by omega)
      have hcell := ob.cell (i := (p + k) / 8) (by omega)
      have hfree := ob.free ((p + k) / 8)
      have hx := ((Bt.putF l p v k).getD ((p + k) / 8) 0).toNat_lt
      have ht := test_bit v k hv
      have hnx : Bt.putF l p v (k + 1) = Bt.setB (Bt.putF l p v k) (p + k) (v.testBit k) := rfl
      generalize Bt.putF l p v k = l' at *
      cases hbit : v.testBit k with
      | true =>
        rw [hbit] at ht hnx
        have HN := Lib.hid hnx; clear hnx hbit
        generalize hxx : (l'.getD ((p + k) / 8) 0).toNat = x at *
        have HX := Lib.hid hxx; clear hxx
        go_wp2_with fail
        go_roundw
        case rel =>
          refine ⟨k + 1, by omega, by go_num, ?_, bb.setCell (p := ⟨g, (p + k) / 8, none⟩) hg1 _⟩
          rw [HN.out, ← HX.out]
          exact (ob.setv _ _ (or_byte _ _ (by omega))).1
        case measure => simp [intOf] <;> omega
      | false =>
        rw [hbit] at ht hnx
        have HN := Lib.hid hnx; clear hnx hbit
        generalize hxx : (l'.getD ((p + k) / 8) 0).toNat = x at *
        have HX := Lib.hid hxx; clear hxx
        go_wp2_with fail
        go_roundw
        case rel =>
          refine ⟨k + 1, by omega, by go_num, ?_, bb.setCell (p := ⟨g, (p + k) / 8, none⟩) hg1 _⟩
          rw [HN.out, ← HX.out]
          exact (ob.setv _ _ (andNot_byte _ _ (by omega))).1
        case measure => simp [intOf] <;> omega
    · obtain rfl : k = m := by omega
      go_wp2_with fail
      go_ret2
      exact ⟨A1, c1, rfl, ob, bb⟩
theorem room_range (n : Nat) (p m : Int) : Bt.roomS n p m = 1 ∨ (1 ≤ m ∧ m ≤ 64 ∧ 0 ≤ p ∧ (Bt.roomS n p m = 2 ∨ (Bt.roomS n p m = 0 ∧ p + m ≤ 8 * (n : Int)))) := by
  unfold Bt.roomS
  by_cases h : m < 1 ∨ 64 < m ∨ p < 0
  · rw [if_pos h]; exact .inl rfl
  · rw [if_neg h]
    right
    refine ⟨by omega, by omega, by omega, ?_⟩
    by_cases h' : 8 * (n : Int) < p ∨ 8 * (n : Int) - p < m
    · rw [if_pos h']; exact .inl rfl
    · rw [if_neg h']; exact .inr ⟨rfl, by omega⟩
set_option maxHeartbeats 1000000 in
theorem BPut_bad {A : Option Addr} {n c : Nat} (p m : Int) (v : Nat) (w : World) (hn : n ≤ 1000000) (z : Int) (h : (Bt.roomS n p m = 1 ∧ z = 1) ∨ (Bt.roomS n p m ≠ 1 ∧ Bt.wideS v m = true ∧ z = 9) ∨ (Bt.roomS n p m = 2 ∧ Bt.wideS v m = false ∧ z = 2)) :
    Calls Tryz.prog 55 #[.slice A n c, .int .i64 p, .int .i64 m, .int .u64 (v : Int)] w fun e w' => e = .returned (.tuple #[.slice none 0 0, .int .i64 z]) ∧ w = w' := by
  have C := room_any (A := A) (c := c) p m w hn
  rcases h with ⟨h1, rfl⟩ | ⟨h1, h2, rfl⟩ | ⟨h1, h2, rfl⟩
  · rw [h1] at C
    replace C := Lib.hid C; clear h1
    go_enter Tryz.func55, Tryz.ntmps55
    go_wp2_with fail
    refine (C.out).mono ?_
    rintro e _ ⟨rfl, rfl⟩
    go_wp2_with fail
    go_ret2
    exact ⟨rfl, rfl⟩
  · have hr := (room_range n p m).resolve_left h1
    have C2 := wide_any v m w hr.1 hr.2.1
    rw [h2] at C2
    have hz : (Bt.roomS n p m == 1) = false := by simpa using h1
    generalize Bt.roomS n p m = r at *
    replace C := Lib.hid C; replace C2 := Lib.hid C2; clear h1 h2 hr
    go_enter Tryz.func55, Tryz.ntmps55
    go_wp2_with fail
    refine (C.out).mono ?_
    rintro e _ ⟨rfl, rfl⟩
    go_wp2_with fail
    refine (C2.out).mono ?_
    rintro e _ ⟨rfl, rfl⟩
    go_wp2_with fail
    go_ret2
    exact ⟨rfl, rfl⟩
  · have hr := (room_range n p m).resolve_left (by omega)
    have C2 := wide_any v m w hr.1 hr.2.1
    rw [h2] at C2
    rw [h1] at C
    replace C := Lib.hid C; replace C2 := Lib.hid C2; clear h1 h2 hr
    go_enter Tryz.func55, Tryz.ntmps55
    go_wp2_with fail
    refine (C.out).mono ?_
    rintro e _ ⟨rfl, rfl⟩
    go_wp2_with fail
    refine (C2.out).mono ?_
    rintro e _ ⟨rfl, rfl⟩
    go_wp2_with fail
    go_ret2
    exact ⟨rfl, rfl⟩
end Go.Proofs.YtoplpmfdgaabfaaGreat
/-
  Walks: the reference's Put of bits.
  Conditions: none.
-/
namespace Go.Proofs.YtoplpmfdgaabfaaGreat
set_option linter.unusedVariables false
set_option linter.unusedSimpArgs false
open Go.RowKit
theorem two_steps : ∀ j, j < 8 → ∀ c, c < 256 → ((c &&& (255 - 2 ^ j)) ||| 2 ^ j) = (c ||| 2 ^ j) := by decide +kernel
theorem sb_twice (c : UInt8) (j : Nat) (hj : j < 8) : Bt.sb (Bt.sb c j false) j true = Bt.sb c j true := by
  have hc := c.toNat_lt
  have ho : c.toNat &&& (255 - 2 ^ j) < 256 := Nat.lt_of_le_of_lt Nat.and_le_left hc
  have e : (Bt.sb c j false).toNat = c.toNat &&& (255 - 2 ^ j) := by
    rw [Bt.sb, if_neg (by decide), UInt8.toNat_ofNat', Nat.mod_eq_of_lt (by simpa using ho)]
  rw [Bt.sb, if_pos rfl, e, two_steps j hj _ hc, Bt.sb, if_pos rfl]
theorem setB_twice (l : List UInt8) (i : Nat) : Bt.setB (Bt.setB l i false) i true = Bt.setB l i true := by
  unfold Bt.setB
  by_cases h : i / 8 < l.length
  · have e : (l.set (i / 8) (Bt.sb (l.getD (i / 8) 0) (i % 8) false)).getD (i / 8) 0 = Bt.sb (l.getD (i / 8) 0) (i % 8) false := by simp [List.getD, h]
    rw [e, sb_twice _ _ (Nat.mod_lt _ (by decide)), List.set_set]
  · have e : ∀ x, l.set (i / 8) x = l := fun x => List.set_eq_of_length_le (by omega)
    simp only [e]
theorem test_mod (v k : Nat) : (((v / 2 ^ k : Nat) : Int).tmod 2 == 1) = v.testBit k := by
  rw [Nat.testBit_eq_decide_div_mod_eq, Int.tmod_eq_emod_of_nonneg (Int.natCast_nonneg _), Bool.eq_iff_iff]
  simp only [beq_iff_eq, decide_eq_true_eq]
  generalize v / 2 ^ k = y
  omega
theorem test_emod (v k : Nat) : (((v / 2 ^ k : Nat) : Int) % 2 == 1) = v.testBit k := by
  rw [Nat.testBit_eq_decide_div_mod_eq, Bool.eq_iff_iff]
  simp only [beq_iff_eq, decide_eq_true_eq]
  generalize v / 2 ^ k = y
  omega
set_option maxHeartbeats 1000000 in
theorem RPutB_ok {A : Option Addr} {n c B : Nat} {l : List UInt8} (p m v : Nat) (w : World) (hb : RB w B A n c l) (hn : n ≤ 1000000) (hB : B ≤ w.heap.size) (hv : v < 18446744073709551616) (h1 : 1 ≤ m) (h2 : m ≤ 64) (h3 : p + m ≤ 8 * n) (hw : Bt.wideS v m = false) :
    Calls Tryz.prog 62 #[.slice A n c, .int .i64 (p : Int), .int .i64 (m : Int), .int .u64 (v : Int)] w fun e w' => ∃ A1 c1, e = .returned (.tuple #[.slice A1 n c1, .int .i64 0]) ∧ OB w' w.heap.size A1 n c1 (Bt.putF l p v m) ∧ Below w.heap.size w w' := by
  have hwt : m < 64 → ((v : Int) / 2 ^ m != 0) = false := fun h => by
    have : v / 2 ^ m = 0 := by
      unfold Bt.wideS at hw
      simp at hw
      have := hw (by omega)
      exact Nat.div_eq_of_lt this
    have e1 : (v : Int) / 2 ^ m = ((v / 2 ^ m : Nat) : Int) := by simp
    rw [e1, this]
    rfl
  clear hw
  have ht0 : m < 64 ∧ ((v : Int) / 2 ^ m != 0) = false ∨ 64 ≤ m := by
    rcases Nat.lt_or_ge m 64 with h | h
    · exact .inl ⟨h, hwt h⟩
    · exact .inr h
  clear hwt
  rcases ht0 with ⟨hm, ht0⟩ | hm
  all_goals
    go_enter Tryz.func62, Tryz.ntmps62
    go_wp2_with (at_builtin; refine wpList_appb_nil etb rfl (.tmp 47) (.tmp 48) rfl rfl rfl w.heap.size hb (by omega) (Nat.le_refl _) ?_; intro A1 c1 w1 o1 b1)
    go_loopw [3, 11] (fun x u wr => ∃ k : Nat, k ≤ m ∧ u = .int .i64 k ∧ x = .int .u64 ((v / 2 ^ k : Nat) : Int) ∧ OB wr w.heap.size A1 n c1 (Bt.putF l p v k) ∧ Below w.heap.size w wr) (fun _ u _ => m - (intOf u).toNat)
    case atStart => exact ⟨0, by omega, rfl, by simp, o1, b1⟩
    case round =>
      clear o1 b1
      obtain ⟨k, hk, rfl, rfl, ob, bb⟩ := hrel
      by_cases hlt : k < m
      · obtain ⟨g, rfl, hg1, hg2⟩ := OV.head (e := 5) (size := 1) ob (show 0 < n by omega)
        have hcell := ob.cell (i := (p + k) / 8) (by omega)
        have hfree := ob.free ((p + k) / 8)
        have ht := test_emod v k
        have hle : v / 2 ^ k ≤ v := Nat.div_le_self _ _
        have hdv : v / 2 ^ k / 2 = v / 2 ^ (k + 1) := by rw [Nat.div_div_eq_div_mul, Nat.pow_succ]
        have hnx : Bt.putF l p v (k + 1) = Bt.setB (Bt.putF l p v k) (p + k) (v.testBit k) := rfl
        generalize Bt.putF l p v k = l' at *
        generalize v / 2 ^ k = y at *
        have HD := Lib.hid hdv; clear hdv
        generalize hxe : l'.getD ((p + k) / 8) 0 = xc at *
        have HX := Lib.hid hxe; clear hxe
        have hx := xc.toNat_lt
        cases hbit : v.testBit k with
        | true =>
          rw [hbit] at ht hnx
          have HN := Lib.hid hnx; clear hnx hbit
          go_wp2_with fail
          go_roundw
          case rel =>
            have e1 := andNot_byte xc ((p + k) % 8) (by omega)
            have s1 := ob.setv ((p + k) / 8) _ e1
            have s2 := s1.1.setv ((p + k) / 8) _ (show bits .or .u8 (bits .andNot .u8 (xc.toNat : Int) (2 ^ ((p + k) % 8) % 256)) (2 ^ ((p + k) % 8) % 256) = _ by rw [e1]; exact or_byte _ _ (by omega))
            refine ⟨k + 1, by omega, by go_num, ?_, ?_, (bb.setCell (p := ⟨g, (p + k) / 8, none⟩) hg1 _).setCell (p := ⟨g, (p + k) / 8, none⟩) hg1 _⟩
            · rw [← HD.out]; go_num
            · rw [HN.out, Bt.setB, HX.out]
              have s3 := s2.1
              rw [sb_twice _ _ (Nat.mod_lt _ (by decide)), List.set_set] at s3
              exact s3
          case measure => simp [intOf] <;> omega
        | false =>
          rw [hbit] at ht hnx
          have HN := Lib.hid hnx; clear hnx hbit
          go_wp2_with fail
          go_roundw
          case rel =>
            refine ⟨k + 1, by omega, by go_num, ?_, ?_, bb.setCell (p := ⟨g, (p + k) / 8, none⟩) hg1 _⟩
            · rw [← HD.out]; go_num
            · rw [HN.out, ← HX.out]
              exact (ob.setv _ _ (andNot_byte _ _ (by omega))).1
          case measure => simp [intOf] <;> omega
      · obtain rfl : k = m := by omega
        go_wp2_with fail
        go_ret2
        exact ⟨A1, c1, rfl, ob, bb⟩
theorem wide_test {v : Nat} {m : Int} {b : Bool} (h : Bt.wideS v m = b) (hm : m < 64) : ((v : Int) / 2 ^ m.toNat != 0) = b := by
  unfold Bt.wideS at h
  rw [show decide (m < 64) = true from decide_eq_true hm, Bool.true_and] at h
  have e : (v : Int) / 2 ^ m.toNat = ((v / 2 ^ m.toNat : Nat) : Int) := by simp
  rw [e, ← h]
  generalize v / 2 ^ m.toNat = y
  rw [Bool.eq_iff_iff]
  simp only [bne_iff_ne, ne_eq]
  omega
set_option maxHeartbeats 1000000 in
theorem RPutB_bad {A : Option Addr} {n c : Nat} (p m : Int) (v : Nat) (w : World) (hn : n ≤ 1000000) (z : Int) (h : (Bt.roomS n p m = 1 ∧ z = 1) ∨ (Bt.roomS n p m ≠ 1 ∧ Bt.wideS v m = true ∧ z = 9) ∨ (Bt.roomS n p m = 2 ∧ Bt.wideS v m = false ∧ z = 2)) :
    Calls Tryz.prog 62 #[.slice A n c, .int .i64 p, .int .i64 m, .int .u64 (v : Int)] w fun e w' => e = .returned (.tuple #[.slice none 0 0, .int .i64 z]) ∧ w = w' := by
  rcases h with ⟨h1, rfl⟩ | ⟨h1, h2, rfl⟩ | ⟨h1, h2, rfl⟩
  · have h0 : m < 1 ∨ (1 ≤ m ∧ 64 < m) ∨ (1 ≤ m ∧ m ≤ 64 ∧ p < 0) := by
      unfold Bt.roomS at h1
      split at h1
      · omega
      · split at h1 <;> omega
    clear h1
    rcases h0 with h | ⟨h1, h2⟩ | ⟨h1, h2, h3⟩
    all_goals
      go_enter Tryz.func62, Tryz.ntmps62
      go_wp2_with fail
      go_ret2
      exact ⟨rfl, rfl⟩
  · obtain ⟨r1, r2, r3, _⟩ := (room_range n p m).resolve_left h1
    have hm : m < 64 := by
      rcases (show m < 64 ∨ m = 64 by omega) with h | rfl
      · exact h
      · unfold Bt.wideS at h2; simp at h2
    have ht := wide_test h2 hm
    obtain ⟨M, rfl⟩ : ∃ M : Nat, m = (M : Int) := ⟨m.toNat, by omega⟩
    rw [Int.toNat_natCast] at ht
    clear h1 h2
    go_enter Tryz.func62, Tryz.ntmps62
    go_wp2_with fail
    go_ret2
    exact ⟨rfl, rfl⟩
  · obtain ⟨r1, r2, r3, _⟩ := (room_range n p m).resolve_left (by omega)
    have h0 : 8 * (n : Int) < p ∨ (p ≤ 8 * (n : Int) ∧ 8 * (n : Int) - p < m) := by
      unfold Bt.roomS at h1
      split at h1
      · omega
      · split at h1 <;> omega
    obtain ⟨M, rfl⟩ : ∃ M : Nat, m = (M : Int) := ⟨m.toNat, by omega⟩
    rcases (show (M : Int) < 64 ∨ (M : Int) = 64 by omega) with hm | hm
    · have ht := wide_test h2 hm
      rw [Int.toNat_natCast] at ht
      clear h1 h2
      rcases h0 with h | ⟨h1, h2⟩
      all_goals
        go_enter Tryz.func62, Tryz.ntmps62
        go_wp2_with fail
        go_ret2
        exact ⟨rfl, rfl⟩
    · obtain rfl : M = 64 := by omega
      clear h1 h2 hm
      rcases h0 with h | ⟨h1, h2⟩
      all_goals
        go_enter Tryz.func62, Tryz.ntmps62
        go_wp2_with fail
        go_ret2
        exact ⟨rfl, rfl⟩
end Go.Proofs.YtoplpmfdgaabfaaGreat
