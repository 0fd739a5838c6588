/-
  Texts joined: LexHexed, LexNext.
  Conditions: none.
-/
import Derived.Test.YtmolmpgampmolaaGreatJ17
import Derived.WalkSmall
import Derived.WalkMore
import Derived.ScopeJumps
/-
  Walk: hexed of package lex.
  Conditions: none.
-/
namespace Go.Proofs.YtmolmpgampmolaaGreat
set_option linter.unusedVariables false
set_option linter.unusedSimpArgs false
open Go.RowKit
theorem hexV_snoc {d : List UInt8} {k : Nat} (h : k < d.length) : Lx.hexV (d.take (k + 1)) = 16 * Lx.hexV (d.take k) % 65536 + Lx.hv (d.getD k 0) := by
  unfold Lx.hexV
  rw [List.take_succ_eq_append_getElem h, List.foldl_append, List.getD_eq_getElem?_getD, List.getElem?_eq_getElem h]
  rfl
theorem hv_lt {c : UInt8} (h : Lx.isH c = true) : Lx.hv c < 16 := by
  unfold Lx.hv
  unfold Lx.isH Ty.isD at *
  split
  · rename_i h1
    simp at h1
    omega
  · rename_i h1
    simp at h h1
    omega
theorem isH_lt {c : UInt8} (h : Lx.isH c = true) : c.toNat < 128 := by
  unfold Lx.isH Ty.isD at h
  simp at h
  omega
theorem hexV_lt {d : List UInt8} (h : d.all Lx.isH = true) : Lx.hexV d < 65536 := by
  have key : ∀ (d : List UInt8) (v : Nat), d.all Lx.isH = true → v < 65536 → d.foldl (fun v c => 16 * v % 65536 + Lx.hv c) v < 65536 := by
    intro d
    induction d with
    | nil => intro v _ h; exact h
    | cons c r ih =>
      intro v h hv
      rw [List.all_cons, Bool.and_eq_true] at h
      rw [List.foldl_cons]
      refine ih _ h.2 ?_
      have := hv_lt h.1
      omega
  exact key d 0 h (by decide)
theorem all_tw (p : UInt8 → Bool) : ∀ l : List UInt8, (l.takeWhile p).all p = true
  | [] => rfl
  | c :: r => by
    rw [List.takeWhile_cons]
    split
    · rename_i h; rw [List.all_cons, h, all_tw p r]; rfl
    · rfl
theorem all_at {p : UInt8 → Bool} {l : List UInt8} (h : l.all p = true) {k : Nat} (hk : k < l.length) : p (l.getD k 0) = true := by
  rw [List.getD_eq_getElem?_getD, List.getElem?_eq_getElem hk]
  exact List.all_eq_true.1 h _ (List.getElem_mem hk)
theorem i64_nat {z : Nat} (hz : z < 9223372036854775808) : (BitVec.ofInt 64 (z : Int)).toNat = z := by
  rw [BitVec.ofInt_natCast, BitVec.toNat_ofNat]; exact Nat.mod_eq_of_lt (by omega)
theorem i64_or_nat (a b : Nat) (ha : a < 9223372036854775808) (hb : b < 9223372036854775808) : bits .or .i64 (a : Int) (b : Int) = ((a ||| b : Nat) : Int) := by
  show IntKind.i64.wrap ((BitVec.ofInt 64 (a : Int) ||| BitVec.ofInt 64 (b : Int)).toNat : Int) = _
  have := Nat.or_lt_two_pow (n := 63) (x := a) (y := b) (by omega) (by omega)
  rw [BitVec.toNat_or, i64_nat ha, i64_nat hb, IntKind.wrap_i64]
  omega
theorem i64_and_nat (a b : Nat) (ha : a < 9223372036854775808) (hb : b < 9223372036854775808) : bits .and .i64 (a : Int) (b : Int) = ((a &&& b : Nat) : Int) := by
  show IntKind.i64.wrap ((BitVec.ofInt 64 (a : Int) &&& BitVec.ofInt 64 (b : Int)).toNat : Int) = _
  have : a &&& b ≤ a := Nat.and_le_left
  rw [BitVec.toNat_and, i64_nat ha, i64_nat hb, IntKind.wrap_i64]
  omega
theorem hex_step {v n : Nat} {z : Int} (hz : z = (n : Int)) (hv : v < 65536) (hn : n < 16) : bits .or .i64 (bits .and .i64 ((v : Int) * 16) 65535) z = ((16 * v % 65536 + n : Nat) : Int) := by
  subst hz
  have e1 : bits .and .i64 ((v : Int) * 16) 65535 = ((16 * v % 65536 : Nat) : Int) := by
    have := i64_and_nat (16 * v) 65535 (by omega) (by omega)
    rw [show (v : Int) * 16 = ((16 * v : Nat) : Int) by omega, show (65535 : Int) = ((65535 : Nat) : Int) from rfl, this, Nat.and_two_pow_sub_one_eq_mod (16 * v) 16]
  rw [e1, i64_or_nat _ _ (by omega) (by omega)]
  congr 1
  have h := Nat.two_pow_add_eq_or_of_lt (i := 4) (b := n) (by omega) (v % 4096)
  rw [show 2 ^ 4 * (v % 4096) = 16 * v % 65536 by omega] at h
  exact h.symm
theorem Blk.iter {w : World} {g k : Nat} {t : TypeId} {cs : Array Value} (h : Blk w g t cs) {s : ByteArray} {p : Nat} (hk : w.heap[k]? = some (.stringIter s p)) (p' : Nat) : Blk (w.iterAt k s p') g t cs := by
  have hne : g ≠ k := by
    rintro rfl
    have h' : w.heap[g]? = some (.cells cs t (0, 0)) := h
    rw [hk] at h'
    cases h'
  exact (Lib.iterAt_other w k g s p' hne).trans h
set_option maxRecDepth 100000 in
set_option maxHeartbeats 4000000 in
theorem hexed_any (q : List UInt8) (w : World) (hs : q.length ≤ 10000) :
    Calls Tryz.prog 91 #[.string (T (48 :: 120 :: q))] w (FPost (tkV 3 (48 :: 120 :: q.takeWhile Lx.isH) (Lx.hexV (q.takeWhile Lx.isH) : Int) 0) (decide ((q.takeWhile Lx.isH).length ≤ 4)) w) := by
  have hT := T_size (48 :: 120 :: q)
  have htl := tw_len Lx.isH q
  have htk : (48 :: 120 :: q).take (2 + (q.takeWhile Lx.isH).length) = 48 :: 120 :: q.takeWhile Lx.isH := by
    rw [show 2 + (q.takeWhile Lx.isH).length = (q.takeWhile Lx.isH).length + 1 + 1 by omega, List.take_succ_cons, List.take_succ_cons, take_tw]
  simp only [List.length_cons] at hT
  have hrest := fun w => run_T_rest (48 :: 120 :: q) .i64 2 2 rfl (by simp) w
  rw [show List.drop 2 (48 :: 120 :: q) = q from rfl] at hrest
  have H := Lib.hid (fun w => head_hex q w (by omega))
  have hcut := fun w => run_T_head (48 :: 120 :: q) .i64 (2 + ((q.takeWhile Lx.isH).length : Int)) (2 + (q.takeWhile Lx.isH).length) (by omega) (by simp only [List.length_cons]; omega) w
  rw [htk] at hcut
  have hall := all_tw Lx.isH q
  generalize q.takeWhile Lx.isH = d at *
  have hTd := T_size d
  generalize htx : (48 :: 120 :: d : List UInt8) = txt at *
  generalize (48 :: 120 :: q : List UInt8) = s at *
  clear htk htx
  have HA := Lib.hid hall; clear hall
  go_enter Tryz.func91, Tryz.ntmps91
  go_wp2_with fail
  refine (H.out _).mono ?_
  rintro e w1 ⟨rfl, b1⟩
  have K2 := Blk.made b1
  have d1 := below_step (alloc_one _ _) b1 (Nat.le_refl _)
  have hsz := d1.size
  have hsz1 : w.heap.size + 1 ≤ w1.heap.size := by have := b1.size; simp at this; omega
  have b2 := alloc_two w1 (.cells #[.int .i64 3, .string (T txt), .int .i64 0, .int .i64 0] 56) (.stringIter (T d) 0)
  have K5 := (Blk.new w1 56 #[.int .i64 3, .string (T txt), .int .i64 0, .int .i64 0]).alloc (.stringIter (T d) 0)
  have d2 := below_step d1 b2 (Nat.le_refl _)
  replace K2 := K2.later b2
  have hit := heap_alloc_new (w1.alloc (.cells #[.int .i64 3, .string (T txt), .int .i64 0, .int .i64 0] 56)) (.stringIter (T d) 0)
  have hks : (w1.alloc (.cells #[.int .i64 3, .string (T txt), .int .i64 0, .int .i64 0] 56)).heap.size = w1.heap.size + 1 := by simp
  rw [hks] at hit
  have HK2 := Lib.hid K2; have HK5 := Lib.hid K5; have HIT := Lib.hid hit; have HD2 := Lib.hid d2
  clear K2 K5 hit d2 b2 hks
  go_wp2_with fail
  go_loopw [7] (fun _ wr => ∃ pos : Nat, pos ≤ d.length ∧ wr.heap[w1.heap.size + 1]? = some (.stringIter (T d) pos) ∧ Blk wr w1.heap.size 56 #[.int .i64 3, .string (T txt), .int .i64 (Lx.hexV (d.take pos) : Int), .int .i64 0] ∧ Blk wr w.heap.size 56 #[.int .i64 0, .string ⟨#[]⟩, .int .i64 0, .int .i64 0] ∧ Below w.heap.size w wr) (fun _ wr => d.length - wr.iterPos (w1.heap.size + 1))
  case atStart => exact ⟨0, by omega, HIT.out, HK5.out, HK2.out, HD2.out⟩
  case round =>
    obtain ⟨pos, hpos, hit, K5, K2, hbel⟩ := hrel
    by_cases hlt : pos < d.length
    · have hc := all_at HA.out hlt
      have hv16 := hv_lt hc
      have hsn := hexV_snoc hlt
      have hvl := hexV_lt (d := d.take pos) (by rw [List.all_eq_true]; intro x hx; exact List.all_eq_true.1 HA.out x (List.mem_of_mem_take hx))
      have hasc : (d.getD pos 0).toNat < 128 := isH_lt hc
      have hnx0 := fun ty => Lib.run_next_ascii_at (P := Tryz.prog) wr (w1.heap.size + 1) (T d) pos ty hit (by rw [T_size]; exact hlt) (by rw [T_get]; exact hasc)
      rw [T_get] at hnx0
      have hit2 := Lib.iterAt_heap wr (w1.heap.size + 1) (T d) pos (pos + 1) hit
      have hb2 := Lib.below_iterAt hbel (k := w1.heap.size + 1) (by omega) (T d) (pos + 1)
      have J5 := K5.iter hit (pos + 1)
      have J2 := K2.iter hit (pos + 1)
      obtain ⟨wn, hwn⟩ : ∃ wn, wr.iterAt (w1.heap.size + 1) (T d) (pos + 1) = wn := ⟨_, rfl⟩
      rw [hwn] at hnx0 hit2 hb2 J5 J2
      have hnx : ∀ ty, (Instr.next (.pointer (some ⟨w1.heap.size + 1, 0, none⟩)) true ty).run Tryz.prog wr = _ := hnx0
      generalize d.getD pos 0 = c at *
      have DG := rune_digit c.toNat wn (by omega)
      have hrd := Lx.isD_r c
      have F5 := J5.four
      have HSN := Lib.hid hsn; have HC := Lib.hid hc
      have HIT2 := Lib.hid hit2; have HPOS := Lib.hid (iterPos_of hit)
      have HJ2 := Lib.hid J2
      clear hsn hc hnx0 hit K5 K2 hwn hit2 J2
      generalize Lx.hexV (d.take pos) = v at *
      rw [← hrd] at DG
      cases hd : Ty.isD c with
      | true =>
        rw [hd] at DG
        replace DG := Lib.hid DG
        have HDG := Lib.hid hd
        have HC48 := Lib.hid (show 48 ≤ c.toNat by have h := hd; unfold Ty.isD at h; simp at h; exact h.1)
        clear hrd hd
        go_wp2_with fail
        refine (DG.out).mono ?_
        rintro e _ ⟨rfl, rfl⟩
        go_wp2_with fail
        have hne : w1.heap.size + 1 ≠ w1.heap.size := by omega
        have hst := hex_step (v := v) (n := Lx.hv c) (z := (c.toNat : Int) - 48) (by unfold Lx.hv; rw [if_pos HDG.out]; have := HC48.out; omega) hvl hv16
        rw [hst]
        have L5 := J5.set_ 2 (.int .i64 ((16 * v % 65536 + Lx.hv c : Nat) : Int))
        have L2 := HJ2.out.far (p := ⟨w1.heap.size, 2, none⟩) (by show w.heap.size ≠ w1.heap.size; omega) (.int .i64 ((16 * v % 65536 + Lx.hv c : Nat) : Int))
        have hit3 := (Below.heap_setCell _ (⟨w1.heap.size, 2, none⟩ : Addr) (.int .i64 ((16 * v % 65536 + Lx.hv c : Nat) : Int)) (w1.heap.size + 1) hne).trans HIT2.out
        refine ⟨⟨pos + 1, by omega, hit3, ?_, L2, hb2.setCell (p := ⟨w1.heap.size, 2, none⟩) d1.size _⟩, ?_⟩
        · rw [HSN.out]; exact L5
        · rw [iterPos_of hit3, HPOS.out]; omega
      | false =>
        rw [hd] at DG
        replace DG := Lib.hid DG
        have HDG := Lib.hid (show ¬ Ty.isD c = true by rw [hd]; decide)
        have HC48 := Lib.hid (show 97 ≤ c.toNat by have h := HC.out; unfold Lx.isH at h; rw [hd] at h; simp at h; exact h.1)
        clear hrd hd
        go_wp2_with fail
        refine (DG.out).mono ?_
        rintro e _ ⟨rfl, rfl⟩
        go_wp2_with fail
        have hne : w1.heap.size + 1 ≠ w1.heap.size := by omega
        have hst := hex_step (v := v) (n := Lx.hv c) (z := (c.toNat : Int) - 97 + 10) (by unfold Lx.hv; rw [if_neg HDG.out]; have := HC48.out; omega) hvl hv16
        rw [hst]
        have L5 := J5.set_ 2 (.int .i64 ((16 * v % 65536 + Lx.hv c : Nat) : Int))
        have L2 := HJ2.out.far (p := ⟨w1.heap.size, 2, none⟩) (by show w.heap.size ≠ w1.heap.size; omega) (.int .i64 ((16 * v % 65536 + Lx.hv c : Nat) : Int))
        have hit3 := (Below.heap_setCell _ (⟨w1.heap.size, 2, none⟩ : Addr) (.int .i64 ((16 * v % 65536 + Lx.hv c : Nat) : Int)) (w1.heap.size + 1) hne).trans HIT2.out
        refine ⟨⟨pos + 1, by omega, hit3, ?_, L2, hb2.setCell (p := ⟨w1.heap.size, 2, none⟩) d1.size _⟩, ?_⟩
        · rw [HSN.out]; exact L5
        · rw [iterPos_of hit3, HPOS.out]; omega
    · obtain rfl : pos = d.length := by omega
      have hnx : ∀ ty, (Instr.next (.pointer (some ⟨w1.heap.size + 1, 0, none⟩)) true ty).run Tryz.prog wr = _ := fun ty => Lib.run_next_end_at wr (w1.heap.size + 1) (T d) d.length ty hit (by rw [T_size]; omega)
      rw [List.take_length] at K5
      have F5 := K5.four
      have F2 := K2.four
      clear hit
      by_cases h4 : d.length ≤ 4
      · go_wp2_with fail
        obtain ⟨⟨r0, r1, r2, r3⟩, _⟩ := (K2.store4 (.int .i64 3) (.string (T txt)) (.int .i64 (Lx.hexV d : Int)) (.int .i64 0)).four
        exact bodyPost_ret (v := .tuple #[tkV 3 txt (Lx.hexV d : Int) 0, .bool (decide (d.length ≤ 4))]) (by simp [results, Tryz.results91, go_sem, r0, r1, r2, r3, tkV]; omega) rfl ⟨rfl, below_set4 hbel (Nat.le_refl _) _ _ _ _ _ _ _ _⟩
      · go_wp2_with fail
        obtain ⟨⟨r0, r1, r2, r3⟩, _⟩ := (K2.store4 (.int .i64 3) (.string (T txt)) (.int .i64 (Lx.hexV d : Int)) (.int .i64 0)).four
        exact bodyPost_ret (v := .tuple #[tkV 3 txt (Lx.hexV d : Int) 0, .bool (decide (d.length ≤ 4))]) (by simp [results, Tryz.results91, go_sem, r0, r1, r2, r3, tkV]; omega) rfl ⟨rfl, below_set4 hbel (Nat.le_refl _) _ _ _ _ _ _ _ _⟩
end Go.Proofs.YtmolmpgampmolaaGreat
/-
  Walk: next of package lex.
  Conditions: none.
-/
namespace Go.Proofs.YtmolmpgampmolaaGreat
set_option linter.unusedVariables false
set_option linter.unusedSimpArgs false
open Go.RowKit
def TokP (p : Lx.Tk × Int) (w : World) (e : Ending) (w' : World) : Prop := e = .returned (.tuple #[tkV p.1.kind p.1.text p.1.n 0, .int .i64 p.2]) ∧ Below w.heap.size w w'
theorem tokP_mk {p : Lx.Tk × Int} {w w' : World} {k n x : Int} {s : List UInt8} (h : p = (⟨k, s, n, 0⟩, x)) (hb : Below w.heap.size w w') : TokP p w (.returned (.tuple #[tkV k s n 0, .int .i64 x])) w' := by subst h; exact ⟨rfl, hb⟩
theorem tokX_begins (c : UInt8) (r : List UInt8) : ((c :: r).take 2 == [48, 120] && Lx.fst (fun c => Lx.rH c.toNat) ((c :: r).drop 2)) = Lx.tokX c r := by
  have e : Lx.isH = fun c => Lx.rH c.toNat := funext Lx.isH_r
  rw [← e]
  unfold Lx.tokX
  cases r with
  | nil => simp [Lx.fst]
  | cons a q =>
    simp only [List.take_succ_cons, List.take_zero, List.drop_succ_cons, List.drop_zero, List.tail_cons, Lx.fst]
    rw [Bool.eq_iff_iff]
    simp
theorem tokM_begins (c : UInt8) (r : List UInt8) : ((c :: r).take 1 == [45] && Lx.fst (fun c => Lx.rD c.toNat) ((c :: r).drop 1)) = (c == 45 && Lx.fst Ty.isD r) := by
  have e : Ty.isD = fun c => Lx.rD c.toNat := funext Lx.isD_r
  rw [← e]
  rw [Bool.eq_iff_iff]
  simp
theorem T2 : T [48, 120] = (⟨#[48, 120]⟩ : ByteArray) := rfl
theorem T1 : T [45] = (⟨#[45]⟩ : ByteArray) := rfl
theorem TD : T [46, 46] = (⟨#[46, 46]⟩ : ByteArray) := rfl
set_option maxRecDepth 100000 in
set_option maxHeartbeats 8000000 in
theorem next_any (c : UInt8) (r : List UInt8) (w : World) (hs : (c :: r).length ≤ 10000) : Calls Tryz.prog 43 #[.string (T (c :: r))] w (TokP (Lx.tok (c :: r)) w) := by
  have hT := T_size (c :: r)
  have hat := fun w => run_T_at (c :: r) .i64 0 0 rfl (by simp) w
  rw [show (c :: r).getD 0 0 = c from rfl] at hat
  have hc256 := byte_lt c
  have b0 := alloc_one w (.cells tk0C 56)
  unfold tk0C at b0
  have L := fun w => rune_letter c.toNat w (by omega)
  have D := fun w => rune_digit c.toNat w (by omega)
  have X := fun w => begins_any 90 Lx.rH (fun _ _ => by kernel_rfl) rune_hex (c :: r) [48, 120] w (by omega) (by decide)
  have M := fun w => begins_any 92 Lx.rD (fun _ _ => by kernel_rfl) rune_digit (c :: r) [45] w (by omega) (by decide)
  simp only [show ([48, 120] : List UInt8).length = 2 from rfl, show ([45] : List UInt8).length = 1 from rfl, tokX_begins, tokM_begins, T2, T1] at X M
  rw [← Lx.isL_r] at L
  rw [← Lx.isD_r] at D
  rw [show Lx.tok (c :: r) = Lx.tokC c r from rfl]
  by_cases hL : Lx.isL c = true
  · have hv : Lx.tokC c r = (⟨1, c :: r.takeWhile Lx.inW, 0, 0⟩, 0) := by unfold Lx.tokC; rw [if_pos hL]
    rw [hL] at L
    have HV := Lib.hid hv; clear hv
    have H := head_inner (c :: r)
    have hw : (c :: r).takeWhile Lx.inW = c :: r.takeWhile Lx.inW := by rw [List.takeWhile_cons, if_pos (by unfold Lx.inW; rw [hL]; rfl)]
    rw [hw] at H
    have H2 := Lib.hid (fun w => H w (by omega))
    clear H hw hL X M D
    generalize Lx.tokC c r = res at *
    generalize (c :: r : List UInt8) = s at *
    generalize (c :: r.takeWhile Lx.inW : List UInt8) = txt at *
    replace L := Lib.hid L
    go_enter Tryz.func43, Tryz.ntmps43
    go_wp2_with fail
    go_step3
    go_wp2_with fail
    refine (L.out _).mono ?_
    rintro e _ ⟨rfl, rfl⟩
    go_wp2_with fail
    refine (H2.out _).mono ?_
    rintro e w1 ⟨rfl, b1⟩
    have K2 := Blk.made b1
    have F2 := K2.four
    have d1 := below_step (alloc_one _ _) b1 (Nat.le_refl _)
    go_wp2_with fail
    rw [Exit.noGoto_ret]
    obtain ⟨⟨r0, r1, r2, r3⟩, _⟩ := ((K2.store4 (.int .i64 1) (.string (T txt)) (.int .i64 0) (.int .i64 0)).store4 (.int .i64 1) (.string (T txt)) (.int .i64 0) (.int .i64 0)).four
    exact bodyPost_ret (v := .tuple #[tkV 1 txt 0 0, .int .i64 0]) (by simp [results, Tryz.results43, go_sem, r0, r1, r2, r3, tkV, show T [] = (⟨#[]⟩ : ByteArray) from rfl]) rfl (tokP_mk HV.out (below_set4 (below_set4 d1 (Nat.le_refl _) _ _ _ _ _ _ _ _) (Nat.le_refl _) _ _ _ _ _ _ _ _))
  have hLf : Lx.isL c = false := by simpa using hL
  rw [hLf] at L
  have ht1 := hL
  by_cases hX : Lx.tokX c r = true
  · rw [hX] at X
    obtain ⟨rfl, q, rfl, hq⟩ := Lx.tokX_head hX
    have hv : Lx.tokC 48 (120 :: q) = if 4 < (q.takeWhile Lx.isH).length then (Lx.tk0, 12) else (⟨3, 48 :: 120 :: q.takeWhile Lx.isH, Lx.hexV (q.takeWhile Lx.isH), 0⟩, 0) := by unfold Lx.tokC; rw [if_neg hL, if_pos hX]; rfl
    have H := fun w => hexed_any q w (by simp only [List.length_cons] at hs; omega)
    simp only [tkV] at H
    generalize Lx.tokC 48 (120 :: q) = res at *
    generalize q.takeWhile Lx.isH = d at *
    generalize (Lx.hexV d : Int) = n at *
    generalize (48 :: 120 :: q : List UInt8) = s at *
    generalize (48 :: 120 :: d : List UInt8) = txt at *
    clear hX hL ht1 hLf hq
    replace L := Lib.hid L; replace X := Lib.hid X; replace D := Lib.hid D; replace M := Lib.hid M
    by_cases h4 : 4 < d.length
    · rw [if_pos h4] at hv
      rw [show decide (d.length ≤ 4) = false by simp; omega] at H
      have HV := Lib.hid hv; clear hv h4
      replace H := Lib.hid H
      go_enter Tryz.func43, Tryz.ntmps43
      go_wp2_with fail
      go_step3
      go_wp2_with fail
      refine (L.out _).mono ?_
      rintro e _ ⟨rfl, rfl⟩
      go_wp2_with fail
      refine (X.out _).mono ?_
      rintro e _ ⟨rfl, rfl⟩
      go_wp2_with fail
      refine (H.out _).mono ?_
      rintro e w1 ⟨rfl, b1⟩
      have K2 := Blk.made b1
      have F2 := K2.four
      have d1 := below_step (alloc_one _ _) b1 (Nat.le_refl _)
      go_wp2_with fail
      go_step3
      go_wp2_with fail
      rw [Exit.noGoto_ret]
      obtain ⟨⟨r0, r1, r2, r3⟩, _⟩ := ((K2.store4 (.int .i64 3) (.string (T txt)) (.int .i64 n) (.int .i64 0)).store4 (.int .i64 0) (.string ⟨#[]⟩) (.int .i64 0) (.int .i64 0)).four
      exact bodyPost_ret (v := .tuple #[tkV 0 [] 0 0, .int .i64 12]) (by simp [results, Tryz.results43, go_sem, r0, r1, r2, r3, tkV, show T [] = (⟨#[]⟩ : ByteArray) from rfl]) rfl (tokP_mk HV.out (below_set4 (below_set4 d1 (Nat.le_refl _) _ _ _ _ _ _ _ _) (Nat.le_refl _) _ _ _ _ _ _ _ _))
    · rw [if_neg h4] at hv
      rw [show decide (d.length ≤ 4) = true by simp; omega] at H
      have HV := Lib.hid hv; clear hv h4
      replace H := Lib.hid H
      go_enter Tryz.func43, Tryz.ntmps43
      go_wp2_with fail
      go_step3
      go_wp2_with fail
      refine (L.out _).mono ?_
      rintro e _ ⟨rfl, rfl⟩
      go_wp2_with fail
      refine (X.out _).mono ?_
      rintro e _ ⟨rfl, rfl⟩
      go_wp2_with fail
      refine (H.out _).mono ?_
      rintro e w1 ⟨rfl, b1⟩
      have K2 := Blk.made b1
      have F2 := K2.four
      have d1 := below_step (alloc_one _ _) b1 (Nat.le_refl _)
      go_wp2_with fail
      rw [Exit.noGoto_ret]
      obtain ⟨⟨r0, r1, r2, r3⟩, _⟩ := ((K2.store4 (.int .i64 3) (.string (T txt)) (.int .i64 n) (.int .i64 0)).store4 (.int .i64 3) (.string (T txt)) (.int .i64 n) (.int .i64 0)).four
      exact bodyPost_ret (v := .tuple #[tkV 3 txt n 0, .int .i64 0]) (by simp [results, Tryz.results43, go_sem, r0, r1, r2, r3, tkV, show T [] = (⟨#[]⟩ : ByteArray) from rfl]) rfl (tokP_mk HV.out (below_set4 (below_set4 d1 (Nat.le_refl _) _ _ _ _ _ _ _ _) (Nat.le_refl _) _ _ _ _ _ _ _ _))
  have hXf : Lx.tokX c r = false := by simpa using hX
  rw [hXf] at X
  by_cases hD : Lx.tokD c r = true
  · have hv : Lx.tokC c r = if (Ty.parN (c :: r.takeWhile Ty.isD)).2 ≠ 0 then (Lx.tk0, 12) else (⟨2, c :: r.takeWhile Ty.isD, (Ty.parN (c :: r.takeWhile Ty.isD)).1, 0⟩, 0) := by unfold Lx.tokC; rw [if_neg hL, if_neg hX, if_pos hD]
    have H := fun w => lex_number c r w hD hs
    generalize Lx.tokC c r = res at *
    generalize (c :: r.takeWhile Ty.isD : List UInt8) = txt at *
    generalize (c :: r : List UInt8) = s at *
    by_cases hd : Ty.isD c = true
    · rw [hd] at D
      clear hX hL ht1 hLf hXf hD hd
      replace L := Lib.hid L; replace X := Lib.hid X; replace D := Lib.hid D; replace M := Lib.hid M
      by_cases hp : (Ty.parN txt).2 = 0
      · rw [if_neg (by rw [hp]; decide)] at hv
        rw [(num_ok hp).1, (num_ok hp).2] at H
        simp only [tkV] at H
        generalize (Ty.parN txt).1 = n at *
        have HV := Lib.hid hv; clear hv hp
        replace H := Lib.hid H
        go_enter Tryz.func43, Tryz.ntmps43
        go_wp2_with fail
        go_step3
        go_wp2_with fail
        refine (L.out _).mono ?_
        rintro e _ ⟨rfl, rfl⟩
        go_wp2_with fail
        refine (X.out _).mono ?_
        rintro e _ ⟨rfl, rfl⟩
        go_wp2_with fail
        refine (D.out _).mono ?_
        rintro e _ ⟨rfl, rfl⟩
        go_wp2_with fail
        refine (H.out _).mono ?_
        rintro e w1 ⟨rfl, b1⟩
        have K2 := Blk.made b1
        have F2 := K2.four
        have d1 := below_step (alloc_one _ _) b1 (Nat.le_refl _)
        go_wp2_with fail
        rw [Exit.noGoto_ret]
        obtain ⟨⟨r0, r1, r2, r3⟩, _⟩ := ((K2.store4 (.int .i64 2) (.string (T txt)) (.int .i64 n) (.int .i64 0)).store4 (.int .i64 2) (.string (T txt)) (.int .i64 n) (.int .i64 0)).four
        exact bodyPost_ret (v := .tuple #[tkV 2 txt n 0, .int .i64 0]) (by simp [results, Tryz.results43, go_sem, r0, r1, r2, r3, tkV, show T [] = (⟨#[]⟩ : ByteArray) from rfl]) rfl (tokP_mk HV.out (below_set4 (below_set4 d1 (Nat.le_refl _) _ _ _ _ _ _ _ _) (Nat.le_refl _) _ _ _ _ _ _ _ _))
      · rw [if_pos hp] at hv
        rw [(num_bad hp).1, (num_bad hp).2] at H
        simp only [tkV] at H
        have HV := Lib.hid hv; clear hv hp
        replace H := Lib.hid H
        go_enter Tryz.func43, Tryz.ntmps43
        go_wp2_with fail
        go_step3
        go_wp2_with fail
        refine (L.out _).mono ?_
        rintro e _ ⟨rfl, rfl⟩
        go_wp2_with fail
        refine (X.out _).mono ?_
        rintro e _ ⟨rfl, rfl⟩
        go_wp2_with fail
        refine (D.out _).mono ?_
        rintro e _ ⟨rfl, rfl⟩
        go_wp2_with fail
        refine (H.out _).mono ?_
        rintro e w1 ⟨rfl, b1⟩
        have K2 := Blk.made b1
        have F2 := K2.four
        have d1 := below_step (alloc_one _ _) b1 (Nat.le_refl _)
        go_wp2_with fail
        go_step3
        go_wp2_with fail
        rw [Exit.noGoto_ret]
        obtain ⟨⟨r0, r1, r2, r3⟩, _⟩ := ((K2.store4 (.int .i64 2) (.string (T txt)) (.int .i64 0) (.int .i64 0)).store4 (.int .i64 0) (.string ⟨#[]⟩) (.int .i64 0) (.int .i64 0)).four
        exact bodyPost_ret (v := .tuple #[tkV 0 [] 0 0, .int .i64 12]) (by simp [results, Tryz.results43, go_sem, r0, r1, r2, r3, tkV, show T [] = (⟨#[]⟩ : ByteArray) from rfl]) rfl (tokP_mk HV.out (below_set4 (below_set4 d1 (Nat.le_refl _) _ _ _ _ _ _ _ _) (Nat.le_refl _) _ _ _ _ _ _ _ _))
    · have hdf : Ty.isD c = false := by simpa using hd
      rw [hdf] at D
      have hm : (c == 45 && Lx.fst Ty.isD r) = true := by unfold Lx.tokD at hD; rw [hdf] at hD; simpa using hD
      rw [hm] at M
      clear hX hL ht1 hLf hXf hD hd hdf hm
      replace L := Lib.hid L; replace X := Lib.hid X; replace D := Lib.hid D; replace M := Lib.hid M
      by_cases hp : (Ty.parN txt).2 = 0
      · rw [if_neg (by rw [hp]; decide)] at hv
        rw [(num_ok hp).1, (num_ok hp).2] at H
        simp only [tkV] at H
        generalize (Ty.parN txt).1 = n at *
        have HV := Lib.hid hv; clear hv hp
        replace H := Lib.hid H
        go_enter Tryz.func43, Tryz.ntmps43
        go_wp2_with fail
        go_step3
        go_wp2_with fail
        refine (L.out _).mono ?_
        rintro e _ ⟨rfl, rfl⟩
        go_wp2_with fail
        refine (X.out _).mono ?_
        rintro e _ ⟨rfl, rfl⟩
        go_wp2_with fail
        refine (D.out _).mono ?_
        rintro e _ ⟨rfl, rfl⟩
        go_wp2_with fail
        refine (M.out _).mono ?_
        rintro e _ ⟨rfl, rfl⟩
        go_wp2_with fail
        refine (H.out _).mono ?_
        rintro e w1 ⟨rfl, b1⟩
        have K2 := Blk.made b1
        have F2 := K2.four
        have d1 := below_step (alloc_one _ _) b1 (Nat.le_refl _)
        go_wp2_with fail
        rw [Exit.noGoto_ret]
        obtain ⟨⟨r0, r1, r2, r3⟩, _⟩ := ((K2.store4 (.int .i64 2) (.string (T txt)) (.int .i64 n) (.int .i64 0)).store4 (.int .i64 2) (.string (T txt)) (.int .i64 n) (.int .i64 0)).four
        exact bodyPost_ret (v := .tuple #[tkV 2 txt n 0, .int .i64 0]) (by simp [results, Tryz.results43, go_sem, r0, r1, r2, r3, tkV, show T [] = (⟨#[]⟩ : ByteArray) from rfl]) rfl (tokP_mk HV.out (below_set4 (below_set4 d1 (Nat.le_refl _) _ _ _ _ _ _ _ _) (Nat.le_refl _) _ _ _ _ _ _ _ _))
      · rw [if_pos hp] at hv
        rw [(num_bad hp).1, (num_bad hp).2] at H
        simp only [tkV] at H
        have HV := Lib.hid hv; clear hv hp
        replace H := Lib.hid H
        go_enter Tryz.func43, Tryz.ntmps43
        go_wp2_with fail
        go_step3
        go_wp2_with fail
        refine (L.out _).mono ?_
        rintro e _ ⟨rfl, rfl⟩
        go_wp2_with fail
        refine (X.out _).mono ?_
        rintro e _ ⟨rfl, rfl⟩
        go_wp2_with fail
        refine (D.out _).mono ?_
        rintro e _ ⟨rfl, rfl⟩
        go_wp2_with fail
        refine (M.out _).mono ?_
        rintro e _ ⟨rfl, rfl⟩
        go_wp2_with fail
        refine (H.out _).mono ?_
        rintro e w1 ⟨rfl, b1⟩
        have K2 := Blk.made b1
        have F2 := K2.four
        have d1 := below_step (alloc_one _ _) b1 (Nat.le_refl _)
        go_wp2_with fail
        go_step3
        go_wp2_with fail
        rw [Exit.noGoto_ret]
        obtain ⟨⟨r0, r1, r2, r3⟩, _⟩ := ((K2.store4 (.int .i64 2) (.string (T txt)) (.int .i64 0) (.int .i64 0)).store4 (.int .i64 0) (.string ⟨#[]⟩) (.int .i64 0) (.int .i64 0)).four
        exact bodyPost_ret (v := .tuple #[tkV 0 [] 0 0, .int .i64 12]) (by simp [results, Tryz.results43, go_sem, r0, r1, r2, r3, tkV, show T [] = (⟨#[]⟩ : ByteArray) from rfl]) rfl (tokP_mk HV.out (below_set4 (below_set4 d1 (Nat.le_refl _) _ _ _ _ _ _ _ _) (Nat.le_refl _) _ _ _ _ _ _ _ _))
  have hdf : Ty.isD c = false ∧ (c == 45 && Lx.fst Ty.isD r) = false := by
    unfold Lx.tokD at hD
    simp only [Bool.or_eq_true, not_or] at hD
    exact ⟨by simpa using hD.1, by simpa using hD.2⟩
  rw [hdf.1] at D
  rw [hdf.2] at M
  by_cases h34 : c = 34
  · subst h34
    have hv : Lx.tokC 34 r = (match Lx.qlen false r with | none => (Lx.tk0, 12) | some k => (⟨4, 34 :: r.take k, 0, 0⟩, 0)) := by unfold Lx.tokC; rw [if_neg hL, if_neg hX, if_neg hD, if_pos rfl]; cases Lx.qlen false r <;> rfl
    have H := fun w => quoted_any (34 :: r) w (by simp) (by omega)
    rw [show quoV (34 :: r) = (match Lx.qlen false r with | some k => tkV 4 (34 :: r.take k) 0 0 | none => tkV 0 [] 0 0) from rfl, show (34 :: r : List UInt8).tail = r from rfl] at H
    generalize Lx.tokC 34 r = res at *
    generalize (34 :: r : List UInt8) = s at *
    clear hX hL ht1 hLf hXf hD hdf
    replace L := Lib.hid L; replace X := Lib.hid X; replace D := Lib.hid D; replace M := Lib.hid M
    cases hq : Lx.qlen false r with
    | none =>
      rw [hq] at H hv
      simp only [tkV, Option.isSome_none, show T [] = (⟨#[]⟩ : ByteArray) from rfl] at H
      have HV := Lib.hid hv; clear hv hq
      replace H := Lib.hid H
      go_enter Tryz.func43, Tryz.ntmps43
      go_wp2_with fail
      go_step3
      go_wp2_with fail
      refine (L.out _).mono ?_
      rintro e _ ⟨rfl, rfl⟩
      go_wp2_with fail
      refine (X.out _).mono ?_
      rintro e _ ⟨rfl, rfl⟩
      go_wp2_with fail
      refine (D.out _).mono ?_
      rintro e _ ⟨rfl, rfl⟩
      go_wp2_with fail
      refine (M.out _).mono ?_
      rintro e _ ⟨rfl, rfl⟩
      go_wp2_with fail
      refine (H.out _).mono ?_
      rintro e w1 ⟨rfl, b1⟩
      have K2 := Blk.made b1
      have F2 := K2.four
      have d1 := below_step (alloc_one _ _) b1 (Nat.le_refl _)
      go_wp2_with fail
      go_step3
      go_wp2_with fail
      rw [Exit.noGoto_ret]
      obtain ⟨⟨r0, r1, r2, r3⟩, _⟩ := ((K2.store4 (.int .i64 0) (.string ⟨#[]⟩) (.int .i64 0) (.int .i64 0)).store4 (.int .i64 0) (.string ⟨#[]⟩) (.int .i64 0) (.int .i64 0)).four
      exact bodyPost_ret (v := .tuple #[tkV 0 [] 0 0, .int .i64 12]) (by simp [results, Tryz.results43, go_sem, r0, r1, r2, r3, tkV, show T [] = (⟨#[]⟩ : ByteArray) from rfl]) rfl (tokP_mk HV.out (below_set4 (below_set4 d1 (Nat.le_refl _) _ _ _ _ _ _ _ _) (Nat.le_refl _) _ _ _ _ _ _ _ _))
    | some k =>
      rw [hq] at H hv
      simp only [tkV, Option.isSome_some] at H
      dsimp only at hv
      generalize (34 :: r.take k : List UInt8) = txt at *
      have HV := Lib.hid hv; clear hv hq
      replace H := Lib.hid H
      go_enter Tryz.func43, Tryz.ntmps43
      go_wp2_with fail
      go_step3
      go_wp2_with fail
      refine (L.out _).mono ?_
      rintro e _ ⟨rfl, rfl⟩
      go_wp2_with fail
      refine (X.out _).mono ?_
      rintro e _ ⟨rfl, rfl⟩
      go_wp2_with fail
      refine (D.out _).mono ?_
      rintro e _ ⟨rfl, rfl⟩
      go_wp2_with fail
      refine (M.out _).mono ?_
      rintro e _ ⟨rfl, rfl⟩
      go_wp2_with fail
      refine (H.out _).mono ?_
      rintro e w1 ⟨rfl, b1⟩
      have K2 := Blk.made b1
      have F2 := K2.four
      have d1 := below_step (alloc_one _ _) b1 (Nat.le_refl _)
      go_wp2_with fail
      rw [Exit.noGoto_ret]
      obtain ⟨⟨r0, r1, r2, r3⟩, _⟩ := ((K2.store4 (.int .i64 4) (.string (T txt)) (.int .i64 0) (.int .i64 0)).store4 (.int .i64 4) (.string (T txt)) (.int .i64 0) (.int .i64 0)).four
      exact bodyPost_ret (v := .tuple #[tkV 4 txt 0 0, .int .i64 0]) (by simp [results, Tryz.results43, go_sem, r0, r1, r2, r3, tkV, show T [] = (⟨#[]⟩ : ByteArray) from rfl]) rfl (tokP_mk HV.out (below_set4 (below_set4 d1 (Nat.le_refl _) _ _ _ _ _ _ _ _) (Nat.le_refl _) _ _ _ _ _ _ _ _))
  have n34 := byte_ne (k := 34) h34 rfl
  by_cases h35 : c = 35
  · subst h35
    have hv : Lx.tokC 35 r = (⟨4, 35 :: r.takeWhile Lx.isH, 0, 0⟩, 0) := by unfold Lx.tokC; rw [if_neg hL, if_neg hX, if_neg hD, if_neg h34, if_pos rfl]
    have hrest := fun w => run_T_rest (35 :: r) .i64 1 1 rfl (by simp) w
    rw [show List.drop 1 (35 :: r) = r from rfl] at hrest
    have H := Lib.hid (fun w => head_hex r w (by simp only [List.length_cons] at hs; omega))
    have htl := tw_len Lx.isH r
    have hcut := fun w => run_T_head (35 :: r) .i64 (1 + ((r.takeWhile Lx.isH).length : Int)) (1 + (r.takeWhile Lx.isH).length) (by omega) (by simp only [List.length_cons]; omega) w
    rw [show (35 :: r : List UInt8).take (1 + (r.takeWhile Lx.isH).length) = 35 :: r.takeWhile Lx.isH by rw [Nat.add_comm, List.take_succ_cons, take_tw]] at hcut
    simp only [List.length_cons] at hs hT
    have hTd := T_size (r.takeWhile Lx.isH)
    generalize Lx.tokC 35 r = res at *
    generalize (35 :: r : List UInt8) = s at *
    generalize (35 :: r.takeWhile Lx.isH : List UInt8) = txt at *
    generalize r.takeWhile Lx.isH = d at *
    clear hX hL ht1 hLf hXf hD hdf n34 h34
    have HV := Lib.hid hv; clear hv
    replace L := Lib.hid L; replace X := Lib.hid X; replace D := Lib.hid D; replace M := Lib.hid M
    go_enter Tryz.func43, Tryz.ntmps43
    go_wp2_with fail
    go_step3
    go_wp2_with fail
    refine (L.out _).mono ?_
    rintro e _ ⟨rfl, rfl⟩
    go_wp2_with fail
    refine (X.out _).mono ?_
    rintro e _ ⟨rfl, rfl⟩
    go_wp2_with fail
    refine (D.out _).mono ?_
    rintro e _ ⟨rfl, rfl⟩
    go_wp2_with fail
    refine (M.out _).mono ?_
    rintro e _ ⟨rfl, rfl⟩
    go_wp2_with fail
    refine (H.out _).mono ?_
    rintro e w1 ⟨rfl, b1⟩
    have K2 := Blk.made b1
    have F2 := K2.four
    have d1 := below_step (alloc_one _ _) b1 (Nat.le_refl _)
    go_wp2_with fail
    rw [Exit.noGoto_ret]
    obtain ⟨⟨r0, r1, r2, r3⟩, _⟩ := ((K2.store4 (.int .i64 4) (.string (T txt)) (.int .i64 0) (.int .i64 0)).store4 (.int .i64 4) (.string (T txt)) (.int .i64 0) (.int .i64 0)).four
    exact bodyPost_ret (v := .tuple #[tkV 4 txt 0 0, .int .i64 0]) (by simp [results, Tryz.results43, go_sem, r0, r1, r2, r3, tkV, show T [] = (⟨#[]⟩ : ByteArray) from rfl]) rfl (tokP_mk HV.out (below_set4 (below_set4 d1 (Nat.le_refl _) _ _ _ _ _ _ _ _) (Nat.le_refl _) _ _ _ _ _ _ _ _))
  have n35 := byte_ne (k := 35) h35 rfl
  by_cases hM : Lx.mark c = true
  · have hv : Lx.tokC c r = (⟨5, [c], 0, 0⟩, 0) := by unfold Lx.tokC; rw [if_neg hL, if_neg hX, if_neg hD, if_neg h34, if_neg h35, if_pos hM]
    have hcut := fun w => run_T_head (c :: r) .i64 1 1 rfl (by simp) w
    rw [show List.take 1 (c :: r) = [c] from rfl] at hcut
    have hM' := hM
    unfold Lx.mark at hM'
    simp only [Bool.or_eq_true, beq_iff_eq] at hM'
    clear hX hL ht1 hLf hXf hD hdf h34 h35 hM n34 n35
    generalize Lx.tokC c r = res at *
    have HV := Lib.hid hv; clear hv
    replace L := Lib.hid L; replace X := Lib.hid X; replace D := Lib.hid D; replace M := Lib.hid M
    rcases hM' with (((rfl | rfl) | rfl) | rfl) | rfl
    all_goals
      generalize (_ :: r : List UInt8) = s at *
      go_enter Tryz.func43, Tryz.ntmps43
      go_wp2_with fail
      go_step3
      go_wp2_with fail
      refine (L.out _).mono ?_
      rintro e _ ⟨rfl, rfl⟩
      go_wp2_with fail
      refine (X.out _).mono ?_
      rintro e _ ⟨rfl, rfl⟩
      go_wp2_with fail
      refine (D.out _).mono ?_
      rintro e _ ⟨rfl, rfl⟩
      go_wp2_with fail
      refine (M.out _).mono ?_
      rintro e _ ⟨rfl, rfl⟩
      go_wp2_with fail
      rw [Exit.noGoto_ret]
      exact bodyPost_ret (v := .tuple #[tkV 5 [_] 0 0, .int .i64 0]) (by simp [results, Tryz.results43, go_sem, tkV, show T [] = (⟨#[]⟩ : ByteArray) from rfl]) rfl (tokP_mk HV.out (alloc_one _ _))
  have hMn : c ≠ 58 ∧ c ≠ 91 ∧ c ≠ 93 ∧ c ≠ 61 ∧ c ≠ 59 := by
    unfold Lx.mark at hM
    simp only [Bool.or_eq_true, beq_iff_eq, not_or] at hM
    exact ⟨hM.1.1.1.1, hM.1.1.1.2, hM.1.1.2, hM.1.2, hM.2⟩
  have n58 := byte_ne (k := 58) hMn.1 rfl
  have n91 := byte_ne (k := 91) hMn.2.1 rfl
  have n93 := byte_ne (k := 93) hMn.2.2.1 rfl
  have n61 := byte_ne (k := 61) hMn.2.2.2.1 rfl
  have n59 := byte_ne (k := 59) hMn.2.2.2.2 rfl
  by_cases hP : c = 46 ∧ Lx.fst (· == 46) r = true
  · have hv : Lx.tokC c r = (⟨5, [46, 46], 0, 0⟩, 0) := by unfold Lx.tokC; rw [if_neg hL, if_neg hX, if_neg hD, if_neg h34, if_neg h35, if_neg hM, if_pos hP]
    obtain ⟨rfl, hP⟩ := hP
    obtain ⟨q, rfl⟩ : ∃ q, r = 46 :: q := by
      cases r with
      | nil => cases hP
      | cons a q => exact ⟨q, by rw [show a = 46 by simpa [Lx.fst] using hP]⟩
    have hcut := fun w => run_T_head (46 :: 46 :: q) .i64 2 2 rfl (by simp) w
    rw [show List.take 2 (46 :: 46 :: q) = [46, 46] from rfl, TD] at hcut
    simp only [List.length_cons] at hs hT
    clear hX hL ht1 hLf hXf hD hdf h34 h35 hM n34 n35 hMn
    generalize Lx.tokC 46 (46 :: q) = res at *
    generalize (46 :: 46 :: q : List UInt8) = s at *
    have HV := Lib.hid hv; clear hv
    replace L := Lib.hid L; replace X := Lib.hid X; replace D := Lib.hid D; replace M := Lib.hid M
    go_enter Tryz.func43, Tryz.ntmps43
    go_wp2_with fail
    go_step3
    go_wp2_with fail
    refine (L.out _).mono ?_
    rintro e _ ⟨rfl, rfl⟩
    go_wp2_with fail
    refine (X.out _).mono ?_
    rintro e _ ⟨rfl, rfl⟩
    go_wp2_with fail
    refine (D.out _).mono ?_
    rintro e _ ⟨rfl, rfl⟩
    go_wp2_with fail
    refine (M.out _).mono ?_
    rintro e _ ⟨rfl, rfl⟩
    go_wp2_with fail
    rw [Exit.noGoto_ret]
    exact bodyPost_ret (v := .tuple #[tkV 5 [46, 46] 0 0, .int .i64 0]) (by simp [results, Tryz.results43, go_sem, tkV, TD]) rfl (tokP_mk HV.out (alloc_one _ _))
  have hv : Lx.tokC c r = (Lx.tk0, 11) := by unfold Lx.tokC; rw [if_neg hL, if_neg hX, if_neg hD, if_neg h34, if_neg h35, if_neg hM, if_neg hP]
  have HV := Lib.hid hv; clear hv
  generalize Lx.tokC c r = res at *
  clear hX hL ht1 hLf hXf hD hdf h34 h35 hM hMn
  replace L := Lib.hid L; replace X := Lib.hid X; replace D := Lib.hid D; replace M := Lib.hid M
  cases r with
  | nil =>
    clear hP
    simp only [List.length_cons, List.length_nil] at hs hT
    generalize ([c] : List UInt8) = s at *
    go_enter Tryz.func43, Tryz.ntmps43
    go_wp2_with fail
    refine wp_scope_jumps 0 (fun a' w' => w' = w.alloc (.cells #[.int .i64 0, .string ⟨#[]⟩, .int .i64 0, .int .i64 0] 56) ∧ ∃ u0 u1 u4 u5 u6 u7 u8 u9 u10 u11 u12 u13 u14 u15 u16 u17 u18 u19 u20 u21 u22 u23 u24 u25 u26 u27 u28 u29 u30 u31 u32 u33 u34 u35 u36 u37 u38 u39 u40 u41 u42 u43 u44 u45 u46 u47 u48 u49 u50 u51 u52 u53 u54 u55 u56 u57 u58 u59 u60 u61 u62 u63 u64 u65 u66 u67 u68 u69 u70 u71 u72 u73 u74 u75 u76 u77 u78 u79 u80 u81 : Value, a' = { tmps := #[u0, u1, (.pointer (some ⟨w.heap.size, 0, none⟩)), (.int .i64 11), u4, u5, u6, u7, u8, u9, u10, u11, u12, u13, u14, u15, u16, u17, u18, u19, u20, u21, u22, u23, u24, u25, u26, u27, u28, u29, u30, u31, u32, u33, u34, u35, u36, u37, u38, u39, u40, u41, u42, u43, u44, u45, u46, u47, u48, u49, u50, u51, u52, u53, u54, u55, u56, u57, u58, u59, u60, u61, u62, u63, u64, u65, u66, u67, u68, u69, u70, u71, u72, u73, u74, u75, u76, u77, u78, u79, u80, u81], defers := [] }) (fun _ _ => 0) rfl ?_ ?_
    · go_wp2_with fail
      refine (L.out _).mono ?_
      rintro e _ ⟨rfl, rfl⟩
      go_wp2_with fail
      refine (X.out _).mono ?_
      rintro e _ ⟨rfl, rfl⟩
      go_wp2_with fail
      refine (D.out _).mono ?_
      rintro e _ ⟨rfl, rfl⟩
      go_wp2_with fail
      refine (M.out _).mono ?_
      rintro e _ ⟨rfl, rfl⟩
      go_wp2_with fail
      go_step3
      exact ⟨rfl, rfl, _, _, _, _, _, _, _, _, _, _, _, _, _, _, _, _, _, _, _, _, _, _, _, _, _, _, _, _, _, _, _, _, _, _, _, _, _, _, _, _, _, _, _, _, _, _, _, _, _, _, _, _, _, _, _, _, _, _, _, _, _, _, _, _, _, _, _, _, _, _, _, _, _, _, _, _, _, _, _, _, rfl⟩
    · rintro a' w' ⟨rfl, u0, u1, u4, u5, u6, u7, u8, u9, u10, u11, u12, u13, u14, u15, u16, u17, u18, u19, u20, u21, u22, u23, u24, u25, u26, u27, u28, u29, u30, u31, u32, u33, u34, u35, u36, u37, u38, u39, u40, u41, u42, u43, u44, u45, u46, u47, u48, u49, u50, u51, u52, u53, u54, u55, u56, u57, u58, u59, u60, u61, u62, u63, u64, u65, u66, u67, u68, u69, u70, u71, u72, u73, u74, u75, u76, u77, u78, u79, u80, u81, rfl⟩
      go_wp2_with fail
      simp only [Exit.jump]
      exact bodyPost_ret (v := .tuple #[tkV 0 [] 0 0, .int .i64 11]) (by simp [results, Tryz.results43, go_sem, tkV, show T [] = (⟨#[]⟩ : ByteArray) from rfl]) rfl (tokP_mk HV.out (alloc_one _ _))
  | cons a q =>
    have hcut := fun w => run_T_head (c :: a :: q) .i64 2 2 rfl (by simp) w
    rw [show List.take 2 (c :: a :: q) = [c, a] from rfl] at hcut
    have htl := T_toList [c, a]
    have hne : (([c, a] : List UInt8) == [46, 46]) = false := by
      rw [beq_eq_false_iff_ne]
      intro e
      simp only [List.cons.injEq, and_true] at e
      exact hP ⟨e.1, by rw [e.2]; rfl⟩
    clear hP
    simp only [List.length_cons] at hs hT
    generalize (c :: a :: q : List UInt8) = s at *
    generalize ([c, a] : List UInt8) = ca at *
    go_enter Tryz.func43, Tryz.ntmps43
    go_wp2_with fail
    refine wp_scope_jumps 0 (fun a' w' => w' = w.alloc (.cells #[.int .i64 0, .string ⟨#[]⟩, .int .i64 0, .int .i64 0] 56) ∧ ∃ u0 u1 u4 u5 u6 u7 u8 u9 u10 u11 u12 u13 u14 u15 u16 u17 u18 u19 u20 u21 u22 u23 u24 u25 u26 u27 u28 u29 u30 u31 u32 u33 u34 u35 u36 u37 u38 u39 u40 u41 u42 u43 u44 u45 u46 u47 u48 u49 u50 u51 u52 u53 u54 u55 u56 u57 u58 u59 u60 u61 u62 u63 u64 u65 u66 u67 u68 u69 u70 u71 u72 u73 u74 u75 u76 u77 u78 u79 u80 u81 : Value, a' = { tmps := #[u0, u1, (.pointer (some ⟨w.heap.size, 0, none⟩)), (.int .i64 11), u4, u5, u6, u7, u8, u9, u10, u11, u12, u13, u14, u15, u16, u17, u18, u19, u20, u21, u22, u23, u24, u25, u26, u27, u28, u29, u30, u31, u32, u33, u34, u35, u36, u37, u38, u39, u40, u41, u42, u43, u44, u45, u46, u47, u48, u49, u50, u51, u52, u53, u54, u55, u56, u57, u58, u59, u60, u61, u62, u63, u64, u65, u66, u67, u68, u69, u70, u71, u72, u73, u74, u75, u76, u77, u78, u79, u80, u81], defers := [] }) (fun _ _ => 0) rfl ?_ ?_
    · go_wp2_with fail
      refine (L.out _).mono ?_
      rintro e _ ⟨rfl, rfl⟩
      go_wp2_with fail
      refine (X.out _).mono ?_
      rintro e _ ⟨rfl, rfl⟩
      go_wp2_with fail
      refine (D.out _).mono ?_
      rintro e _ ⟨rfl, rfl⟩
      go_wp2_with fail
      refine (M.out _).mono ?_
      rintro e _ ⟨rfl, rfl⟩
      go_wp2_with fail
      go_step3
      exact ⟨rfl, rfl, _, _, _, _, _, _, _, _, _, _, _, _, _, _, _, _, _, _, _, _, _, _, _, _, _, _, _, _, _, _, _, _, _, _, _, _, _, _, _, _, _, _, _, _, _, _, _, _, _, _, _, _, _, _, _, _, _, _, _, _, _, _, _, _, _, _, _, _, _, _, _, _, _, _, _, _, _, _, _, _, rfl⟩
    · rintro a' w' ⟨rfl, u0, u1, u4, u5, u6, u7, u8, u9, u10, u11, u12, u13, u14, u15, u16, u17, u18, u19, u20, u21, u22, u23, u24, u25, u26, u27, u28, u29, u30, u31, u32, u33, u34, u35, u36, u37, u38, u39, u40, u41, u42, u43, u44, u45, u46, u47, u48, u49, u50, u51, u52, u53, u54, u55, u56, u57, u58, u59, u60, u61, u62, u63, u64, u65, u66, u67, u68, u69, u70, u71, u72, u73, u74, u75, u76, u77, u78, u79, u80, u81, rfl⟩
      go_wp2_with fail
      simp only [Exit.jump]
      exact bodyPost_ret (v := .tuple #[tkV 0 [] 0 0, .int .i64 11]) (by simp [results, Tryz.results43, go_sem, tkV, show T [] = (⟨#[]⟩ : ByteArray) from rfl]) rfl (tokP_mk HV.out (alloc_one _ _))
end Go.Proofs.YtmolmpgampmolaaGreat
