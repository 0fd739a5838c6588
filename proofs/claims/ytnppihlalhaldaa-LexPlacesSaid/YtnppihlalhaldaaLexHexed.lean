/-
  Walk: hexed of package lex.
  Conditions: none.
-/
import Derived.Test.YtnppihlalhaldaaLexNum
import Derived.WalkSmall
namespace Go.Proofs.Ytnppihlalhaldaa
set_option linter.unusedVariables false
set_option linter.unusedSimpArgs false
open Go.RowKit
theorem hexV_snoc {d : List UInt8} {k : Nat} (h : k < d.length) : Lx.hexV (d.take (k + 1)) = 16 * Lx.hexV (d.take k) % 65536 + Lx.hv (d.getD k 0) := by
  unfold Lx.hexV
  rw [List.take_succ_eq_append_getElem h, List.foldl_append, List.getD_eq_getElem?_getD, List.getElem?_eq_getElem h]
  rfl
theorem hv_lt {c : UInt8} (h : Lx.isH c = true) : Lx.hv c < 16 := by
  unfold Lx.hv
  unfold Lx.isH Ty.isD at *
  split
  · rename_i h1
    simp at h1
    omega
  · rename_i h1
    simp at h h1
    omega
theorem isH_lt {c : UInt8} (h : Lx.isH c = true) : c.toNat < 128 := by
  unfold Lx.isH Ty.isD at h
  simp at h
  omega
theorem hexV_lt {d : List UInt8} (h : d.all Lx.isH = true) : Lx.hexV d < 65536 := by
  have key : ∀ (d : List UInt8) (v : Nat), d.all Lx.isH = true → v < 65536 → d.foldl (fun v c => 16 * v % 65536 + Lx.hv c) v < 65536 := by
    intro d
    induction d with
    | nil => intro v _ h; exact h
    | cons c r ih =>
      intro v h hv
      rw [List.all_cons, Bool.and_eq_true] at h
      rw [List.foldl_cons]
      refine ih _ h.2 ?_
      have := hv_lt h.1
      omega
  exact key d 0 h (by decide)
theorem all_tw (p : UInt8 → Bool) : ∀ l : List UInt8, (l.takeWhile p).all p = true
  | [] => rfl
  | c :: r => by
    rw [List.takeWhile_cons]
    split
    · rename_i h; rw [List.all_cons, h, all_tw p r]; rfl
    · rfl
theorem all_at {p : UInt8 → Bool} {l : List UInt8} (h : l.all p = true) {k : Nat} (hk : k < l.length) : p (l.getD k 0) = true := by
  rw [List.getD_eq_getElem?_getD, List.getElem?_eq_getElem hk]
  exact List.all_eq_true.1 h _ (List.getElem_mem hk)
theorem i64_nat {z : Nat} (hz : z < 9223372036854775808) : (BitVec.ofInt 64 (z : Int)).toNat = z := by
  rw [BitVec.ofInt_natCast, BitVec.toNat_ofNat]; exact Nat.mod_eq_of_lt (by omega)
theorem i64_or_nat (a b : Nat) (ha : a < 9223372036854775808) (hb : b < 9223372036854775808) : bits .or .i64 (a : Int) (b : Int) = ((a ||| b : Nat) : Int) := by
  show IntKind.i64.wrap ((BitVec.ofInt 64 (a : Int) ||| BitVec.ofInt 64 (b : Int)).toNat : Int) = _
  have := Nat.or_lt_two_pow (n := 63) (x := a) (y := b) (by omega) (by omega)
  rw [BitVec.toNat_or, i64_nat ha, i64_nat hb, IntKind.wrap_i64]
  omega
theorem i64_and_nat (a b : Nat) (ha : a < 9223372036854775808) (hb : b < 9223372036854775808) : bits .and .i64 (a : Int) (b : Int) = ((a &&& b : Nat) : Int) := by
  show IntKind.i64.wrap ((BitVec.ofInt 64 (a : Int) &&& BitVec.ofInt 64 (b : Int)).toNat : Int) = _
  have : a &&& b ≤ a := Nat.and_le_left
  rw [BitVec.toNat_and, i64_nat ha, i64_nat hb, IntKind.wrap_i64]
  omega
theorem hex_step {v n : Nat} {z : Int} (hz : z = (n : Int)) (hv : v < 65536) (hn : n < 16) : bits .or .i64 (bits .and .i64 ((v : Int) * 16) 65535) z = ((16 * v % 65536 + n : Nat) : Int) := by
  subst hz
  have e1 : bits .and .i64 ((v : Int) * 16) 65535 = ((16 * v % 65536 : Nat) : Int) := by
    have := i64_and_nat (16 * v) 65535 (by omega) (by omega)
    rw [show (v : Int) * 16 = ((16 * v : Nat) : Int) by omega, show (65535 : Int) = ((65535 : Nat) : Int) from rfl, this, Nat.and_two_pow_sub_one_eq_mod (16 * v) 16]
  rw [e1, i64_or_nat _ _ (by omega) (by omega)]
  congr 1
  have h := Nat.two_pow_add_eq_or_of_lt (i := 4) (b := n) (by omega) (v % 4096)
  rw [show 2 ^ 4 * (v % 4096) = 16 * v % 65536 by omega] at h
  exact h.symm
theorem Blk.iter {w : World} {g k : Nat} {t : TypeId} {cs : Array Value} (h : Blk w g t cs) {s : ByteArray} {p : Nat} (hk : w.heap[k]? = some (.stringIter s p)) (p' : Nat) : Blk (w.iterAt k s p') g t cs := by
  have hne : g ≠ k := by
    rintro rfl
    have h' : w.heap[g]? = some (.cells cs t (0, 0)) := h
    rw [hk] at h'
    cases h'
  exact (Lib.iterAt_other w k g s p' hne).trans h
set_option maxRecDepth 100000 in
set_option maxHeartbeats 4000000 in
theorem hexed_any (q : List UInt8) (w : World) (hs : q.length ≤ 10000) :
    Calls Try.prog 26 #[.string (T (48 :: 120 :: q))] w (FPost (tkV 3 (48 :: 120 :: q.takeWhile Lx.isH) (Lx.hexV (q.takeWhile Lx.isH) : Int) 0) (decide ((q.takeWhile Lx.isH).length ≤ 4)) w) := by
  have hT := T_size (48 :: 120 :: q)
  have htl := tw_len Lx.isH q
  have htk : (48 :: 120 :: q).take (2 + (q.takeWhile Lx.isH).length) = 48 :: 120 :: q.takeWhile Lx.isH := by
    rw [show 2 + (q.takeWhile Lx.isH).length = (q.takeWhile Lx.isH).length + 1 + 1 by omega, List.take_succ_cons, List.take_succ_cons, take_tw]
  simp only [List.length_cons] at hT
  have hrest := fun w => run_T_rest (48 :: 120 :: q) .i64 2 2 rfl (by simp) w
  rw [show List.drop 2 (48 :: 120 :: q) = q from rfl] at hrest
  have H := Lib.hid (fun w => head_hex q w (by omega))
  have hcut := fun w => run_T_head (48 :: 120 :: q) .i64 (2 + ((q.takeWhile Lx.isH).length : Int)) (2 + (q.takeWhile Lx.isH).length) (by omega) (by simp only [List.length_cons]; omega) w
  rw [htk] at hcut
  have hall := all_tw Lx.isH q
  generalize q.takeWhile Lx.isH = d at *
  have hTd := T_size d
  generalize htx : (48 :: 120 :: d : List UInt8) = txt at *
  generalize (48 :: 120 :: q : List UInt8) = s at *
  clear htk htx
  have HA := Lib.hid hall; clear hall
  go_enter Try.func26, Try.ntmps26
  go_wp2_with fail
  refine (H.out _).mono ?_
  rintro e w1 ⟨rfl, b1⟩
  have K2 := Blk.made b1
  have d1 := below_step (alloc_one _ _) b1 (Nat.le_refl _)
  have hsz := d1.size
  have hsz1 : w.heap.size + 1 ≤ w1.heap.size := by have := b1.size; simp at this; omega
  have b2 := alloc_two w1 (.cells #[.int .i64 3, .string (T txt), .int .i64 0, .int .i64 0] 29) (.stringIter (T d) 0)
  have K5 := (Blk.new w1 29 #[.int .i64 3, .string (T txt), .int .i64 0, .int .i64 0]).alloc (.stringIter (T d) 0)
  have d2 := below_step d1 b2 (Nat.le_refl _)
  replace K2 := K2.later b2
  have hit := heap_alloc_new (w1.alloc (.cells #[.int .i64 3, .string (T txt), .int .i64 0, .int .i64 0] 29)) (.stringIter (T d) 0)
  have hks : (w1.alloc (.cells #[.int .i64 3, .string (T txt), .int .i64 0, .int .i64 0] 29)).heap.size = w1.heap.size + 1 := by simp
  rw [hks] at hit
  have HK2 := Lib.hid K2; have HK5 := Lib.hid K5; have HIT := Lib.hid hit; have HD2 := Lib.hid d2
  clear K2 K5 hit d2 b2 hks
  go_wp2_with fail
  go_loopw [7] (fun _ wr => ∃ pos : Nat, pos ≤ d.length ∧ wr.heap[w1.heap.size + 1]? = some (.stringIter (T d) pos) ∧ Blk wr w1.heap.size 29 #[.int .i64 3, .string (T txt), .int .i64 (Lx.hexV (d.take pos) : Int), .int .i64 0] ∧ Blk wr w.heap.size 29 #[.int .i64 0, .string ⟨#[]⟩, .int .i64 0, .int .i64 0] ∧ Below w.heap.size w wr) (fun _ wr => d.length - wr.iterPos (w1.heap.size + 1))
  case atStart => exact ⟨0, by omega, HIT.out, HK5.out, HK2.out, HD2.out⟩
  case round =>
    obtain ⟨pos, hpos, hit, K5, K2, hbel⟩ := hrel
    by_cases hlt : pos < d.length
    · have hc := all_at HA.out hlt
      have hv16 := hv_lt hc
      have hsn := hexV_snoc hlt
      have hvl := hexV_lt (d := d.take pos) (by rw [List.all_eq_true]; intro x hx; exact List.all_eq_true.1 HA.out x (List.mem_of_mem_take hx))
      have hasc : (d.getD pos 0).toNat < 128 := isH_lt hc
      have hnx0 := fun ty => Lib.run_next_ascii_at (P := Try.prog) wr (w1.heap.size + 1) (T d) pos ty hit (by rw [T_size]; exact hlt) (by rw [T_get]; exact hasc)
      rw [T_get] at hnx0
      have hit2 := Lib.iterAt_heap wr (w1.heap.size + 1) (T d) pos (pos + 1) hit
      have hb2 := Lib.below_iterAt hbel (k := w1.heap.size + 1) (by omega) (T d) (pos + 1)
      have J5 := K5.iter hit (pos + 1)
      have J2 := K2.iter hit (pos + 1)
      obtain ⟨wn, hwn⟩ : ∃ wn, wr.iterAt (w1.heap.size + 1) (T d) (pos + 1) = wn := ⟨_, rfl⟩
      rw [hwn] at hnx0 hit2 hb2 J5 J2
      have hnx : ∀ ty, (Instr.next (.pointer (some ⟨w1.heap.size + 1, 0, none⟩)) true ty).run Try.prog wr = _ := hnx0
      generalize d.getD pos 0 = c at *
      have DG := rune_digit c.toNat wn (by omega)
      have hrd := Lx.isD_r c
      have F5 := J5.four
      have HSN := Lib.hid hsn; have HC := Lib.hid hc
      have HIT2 := Lib.hid hit2; have HPOS := Lib.hid (iterPos_of hit)
      have HJ2 := Lib.hid J2
      clear hsn hc hnx0 hit K5 K2 hwn hit2 J2
      generalize Lx.hexV (d.take pos) = v at *
      rw [← hrd] at DG
      cases hd : Ty.isD c with
      | true =>
        rw [hd] at DG
        replace DG := Lib.hid DG
        have HDG := Lib.hid hd
        have HC48 := Lib.hid (show 48 ≤ c.toNat by have h := hd; unfold Ty.isD at h; simp at h; exact h.1)
        clear hrd hd
        go_wp2_with fail
        refine (DG.out).mono ?_
        rintro e _ ⟨rfl, rfl⟩
        go_wp2_with fail
        have hne : w1.heap.size + 1 ≠ w1.heap.size := by omega
        have hst := hex_step (v := v) (n := Lx.hv c) (z := (c.toNat : Int) - 48) (by unfold Lx.hv; rw [if_pos HDG.out]; have := HC48.out; omega) hvl hv16
        rw [hst]
        have L5 := J5.set_ 2 (.int .i64 ((16 * v % 65536 + Lx.hv c : Nat) : Int))
        have L2 := HJ2.out.far (p := ⟨w1.heap.size, 2, none⟩) (by show w.heap.size ≠ w1.heap.size; omega) (.int .i64 ((16 * v % 65536 + Lx.hv c : Nat) : Int))
        have hit3 := (Below.heap_setCell _ (⟨w1.heap.size, 2, none⟩ : Addr) (.int .i64 ((16 * v % 65536 + Lx.hv c : Nat) : Int)) (w1.heap.size + 1) hne).trans HIT2.out
        refine ⟨⟨pos + 1, by omega, hit3, ?_, L2, hb2.setCell (p := ⟨w1.heap.size, 2, none⟩) d1.size _⟩, ?_⟩
        · rw [HSN.out]; exact L5
        · rw [iterPos_of hit3, HPOS.out]; omega
      | false =>
        rw [hd] at DG
        replace DG := Lib.hid DG
        have HDG := Lib.hid (show ¬ Ty.isD c = true by rw [hd]; decide)
        have HC48 := Lib.hid (show 97 ≤ c.toNat by have h := HC.out; unfold Lx.isH at h; rw [hd] at h; simp at h; exact h.1)
        clear hrd hd
        go_wp2_with fail
        refine (DG.out).mono ?_
        rintro e _ ⟨rfl, rfl⟩
        go_wp2_with fail
        have hne : w1.heap.size + 1 ≠ w1.heap.size := by omega
        have hst := hex_step (v := v) (n := Lx.hv c) (z := (c.toNat : Int) - 97 + 10) (by unfold Lx.hv; rw [if_neg HDG.out]; have := HC48.out; omega) hvl hv16
        rw [hst]
        have L5 := J5.set_ 2 (.int .i64 ((16 * v % 65536 + Lx.hv c : Nat) : Int))
        have L2 := HJ2.out.far (p := ⟨w1.heap.size, 2, none⟩) (by show w.heap.size ≠ w1.heap.size; omega) (.int .i64 ((16 * v % 65536 + Lx.hv c : Nat) : Int))
        have hit3 := (Below.heap_setCell _ (⟨w1.heap.size, 2, none⟩ : Addr) (.int .i64 ((16 * v % 65536 + Lx.hv c : Nat) : Int)) (w1.heap.size + 1) hne).trans HIT2.out
        refine ⟨⟨pos + 1, by omega, hit3, ?_, L2, hb2.setCell (p := ⟨w1.heap.size, 2, none⟩) d1.size _⟩, ?_⟩
        · rw [HSN.out]; exact L5
        · rw [iterPos_of hit3, HPOS.out]; omega
    · obtain rfl : pos = d.length := by omega
      have hnx : ∀ ty, (Instr.next (.pointer (some ⟨w1.heap.size + 1, 0, none⟩)) true ty).run Try.prog wr = _ := fun ty => Lib.run_next_end_at wr (w1.heap.size + 1) (T d) d.length ty hit (by rw [T_size]; omega)
      rw [List.take_length] at K5
      have F5 := K5.four
      have F2 := K2.four
      clear hit
      by_cases h4 : d.length ≤ 4
      · go_wp2_with fail
        obtain ⟨⟨r0, r1, r2, r3⟩, _⟩ := (K2.store4 (.int .i64 3) (.string (T txt)) (.int .i64 (Lx.hexV d : Int)) (.int .i64 0)).four
        exact bodyPost_ret (v := .tuple #[tkV 3 txt (Lx.hexV d : Int) 0, .bool (decide (d.length ≤ 4))]) (by simp [results, Try.results26, go_sem, r0, r1, r2, r3, tkV]; omega) rfl ⟨rfl, below_set4 hbel (Nat.le_refl _) _ _ _ _ _ _ _ _⟩
      · go_wp2_with fail
        obtain ⟨⟨r0, r1, r2, r3⟩, _⟩ := (K2.store4 (.int .i64 3) (.string (T txt)) (.int .i64 (Lx.hexV d : Int)) (.int .i64 0)).four
        exact bodyPost_ret (v := .tuple #[tkV 3 txt (Lx.hexV d : Int) 0, .bool (decide (d.length ≤ 4))]) (by simp [results, Try.results26, go_sem, r0, r1, r2, r3, tkV]; omega) rfl ⟨rfl, below_set4 hbel (Nat.le_refl _) _ _ _ _ _ _ _ _⟩
end Go.Proofs.Ytnppihlalhaldaa
