/-
  Texts joined: BitMem, Bit, BitGet, BitVal, BitTot, BitPut, BitRefPut, BitPack, BitUnp.
  Conditions: none.
-/
import Derived.Test.YtkddillihhjghaaJ02
import Derived.Test.YtkddillihhjghaaJ04
import Derived.Test.YtkddillihhjghaaJ05
import Derived.Test.YtkddillihhjghaaJ06
import Derived.Deep.QuietTactic
import Derived.BigQuiet
/-
  Fields in memory: of the program and of the reference.
  Conditions: none.
-/
namespace Go.Proofs.Ytkddillihhjghaa
set_option linter.unusedVariables false
set_option linter.unusedSimpArgs false
open Go.ChangeShapes Go.WideShapes Go.ChangeAt Go.RowKit
/-- The cells of a field. -/
def FlC (w : World) (B : Nat) (f : Bt.Fld) (cs : List Value) : Prop := ∃ A n c, cs = [.int .i64 f.bits, .slice A n c] ∧ RB w B A n c f.data
theorem FlC.keep {w w' : World} {B : Nat} {f : Bt.Fld} {cs : List Value} (hk : ∀ p : Addr, p.block < B → w'.cell? p = w.cell? p) (h : FlC w B f cs) : FlC w' B f cs := by
  obtain ⟨A, n, c, h1, h2⟩ := h
  exact ⟨A, n, c, h1, h2.keep hk⟩
theorem FlC.below {w w' : World} {B : Nat} {f : Bt.Fld} {cs : List Value} (hb : Below B w w') (h : FlC w B f cs) : FlC w' B f cs := h.keep fun _ hp => hb.cell hp
theorem FlC.more {w : World} {B B' : Nat} {f : Bt.Fld} {cs : List Value} (hB : B ≤ B') (h : FlC w B f cs) : FlC w B' f cs := by
  obtain ⟨A, n, c, h1, h2⟩ := h
  exact ⟨A, n, c, h1, h2.more hB⟩
/-- A slice of fields; the bytes of its elements below B'. -/
def RFl (w : World) (B B' : Nat) (A : Option Addr) (n c : Nat) (fs : List Bt.Fld) : Prop := RS (FlC w B') w B 2 A n c fs
section
variable {w w' : World} {B B' n c : Nat} {A : Option Addr} {fs : List Bt.Fld}
theorem RFl.len (h : RFl w B B' A n c fs) : fs.length = n := RS.len h (by decide)
theorem RFl.lt (h : RFl w B B' A n c fs) : n ≤ 9223372036854775807 := RS.lt h
theorem RFl.below (h : RFl w B B' A n c fs) (hb : Below B w w') (hB : B' ≤ B) : RFl w' B B' A n c fs := RS.below h hb fun _ _ h => h.below (hb.mono hB)
theorem RFl.drew (h : RFl w B B' A n c fs) : RFl w.drew B B' A n c fs := RS.keep h (fun _ _ => rfl) fun _ _ h => FlC.keep (w := w) (fun _ _ => rfl) h
theorem RFl.at_ (h : RFl w B B' A n c fs) {i : Nat} (hi : i < n) : ∃ b o A' n' c', A = some ⟨b, o, none⟩ ∧ b < B ∧ w.cell? ⟨b, o + i * 2, none⟩ = some (.int .i64 (fs.getD i Bt.Fld.zero).bits) ∧
    w.cell? ⟨b, o + i * 2 + 1, none⟩ = some (.slice A' n' c') ∧ RB w B' A' n' c' (fs.getD i Bt.Fld.zero).data := by
  have hl := h.len
  have hf : fs[i]? = some (fs.getD i Bt.Fld.zero) := by simp [List.getD, List.getElem?_eq_getElem (show i < fs.length by omega)]
  obtain ⟨b, o, cs, rfl, hb, ⟨A', n', c', rfl, hr⟩, hc⟩ := RS.at_ h (by decide) hf
  exact ⟨b, o, A', n', c', rfl, hb, hc 0 _ (by decide) rfl, hc 1 _ (by decide) rfl, hr⟩
end
/-- A slice of numbers. -/
def RI (w : World) (B : Nat) (A : Option Addr) (n c : Nat) (ws : List Int) : Prop := RV w B 1 A n c (ws.map (Value.int .i64))
section
variable {w w' : World} {B B' n c : Nat} {A : Option Addr} {ws : List Int}
theorem RI.len (h : RI w B A n c ws) : ws.length = n := by have := RV.len h; simpa using this
theorem RI.lt (h : RI w B A n c ws) : n ≤ 9223372036854775807 := Nat.le_trans (RV.le h) (RV.cap h)
theorem RI.below (h : RI w B A n c ws) (hb : Below B w w') : RI w' B A n c ws := RV.below h hb
theorem RI.at_ (h : RI w B A n c ws) {i : Nat} (hi : i < n) : ∃ b o, A = some ⟨b, o, none⟩ ∧ b < B ∧ w.cell? ⟨b, o + i, none⟩ = some (.int .i64 (ws.getD i 0)) := by
  have hl := h.len
  obtain ⟨b, o, rfl, hb, hc⟩ := RV.at_ h (by omega)
  exact ⟨b, o, rfl, hb, hc i _ (by simp [List.getElem?_map, List.getD, show i < ws.length by omega])⟩
end
theorem etfl : ET Try.prog 79 88 2 32 (.agg #[.int .i64 0, .slice none 0 0]) := ⟨Try.underlying79, info_parts (by kernel_rfl), rfl, by decide⟩
theorem etint : ET Try.prog 78 3 1 8 (.int .i64 0) := ⟨Try.underlying78, info_parts (by kernel_rfl), rfl, by decide⟩
theorem field_oneCell (f : Int) (A : Option Addr) (m c : Nat) : ∀ u ∈ ([.int .i64 f, .slice A m c] : List Value), u.oneCell' = true := by
  intro u hu
  simp only [List.mem_cons, List.not_mem_nil, or_false] at hu
  rcases hu with rfl | rfl <;> rfl
/-- The cells of a field whose bytes are the call's own. -/
def FlW (w : World) (base : Nat) (f : Bt.Fld) (cs : List Value) : Prop := ∃ A n c, cs = [.int .i64 f.bits, .slice A n c] ∧ OW w base A n c f.data
theorem FlW.below {w w' : World} {base : Nat} {f : Bt.Fld} {cs : List Value} (hb : Below w.heap.size w w') (h : FlW w base f cs) : FlW w' base f cs := by
  obtain ⟨A, n, c, h1, h2⟩ := h
  exact ⟨A, n, c, h1, h2.below hb⟩
theorem FlW.more {w : World} {base base' : Nat} {f : Bt.Fld} {cs : List Value} (hb : base' ≤ base) (h : FlW w base f cs) : FlW w base' f cs := by
  obtain ⟨A, n, c, h1, h2⟩ := h
  exact ⟨A, n, c, h1, h2.more hb⟩
theorem FlW.flc {w : World} {base : Nat} {f : Bt.Fld} {cs : List Value} (h : FlW w base f cs) : FlC w w.heap.size f cs := by
  obtain ⟨A, n, c, h1, h2⟩ := h
  exact ⟨A, n, c, h1, h2.rb⟩
theorem FlW.beside {w w' : World} {base base' e size m c' : Nat} {A' : Option Addr} {xs : List Value} (h' : OV w base' e size A' m c' xs) (hne : e ≠ 5) (hg : w.grownBy w' (Value.slice A' m c').ownBlock) {f : Bt.Fld} {cs : List Value} (h : FlW w base f cs) : FlW w' base f cs := by
  obtain ⟨A, n, c, h1, h2⟩ := h
  exact ⟨A, n, c, h1, h2.beside h' hne hg⟩
section
variable {H : Type} {enc : TypeId × Value → H} {w : World} {spare : Nat → Bool} {held : Bool}
set_option maxRecDepth 100000 in
theorem open_ints {r : Reach} {b0 : Nat} {v : Value} {d : DataW H} {p : List MemPlace} (hv : Value.okWide Try.prog w r b0 78 v) (h : DataW.Trod enc Try.prog w 0 spare held 78 v d p) :
    ∃ (A : Option Addr) (n c : Nat) (ws : List Int), v = .slice A n c ∧ RI w w.heap.size A n c ws ∧ ∀ x ∈ ws, (Lit.int .i64 x).wf = true := by
  obtain ⟨A, n, c, rfl⟩ := okWide_slice Try.underlying78 hv
  obtain ⟨fuel, hf⟩ := h
  obtain ⟨ws, xs, hl, h1, h2⟩ := open_rows (fun (x : Int) cs => cs = [.int .i64 x] ∧ (Lit.int .i64 x).wf = true) Try.underlying78 (show Try.prog.cellsOf 3 = 1 by kernel_rfl) (by decide) (fun _ cs _ h => by
    have h3 : cs.length = 1 := (DataW.trod_int Try.underlying3 h).elim fun z hz => by rw [hz.1]; rfl
    match cs, h3 with
    | [a], _ =>
      obtain ⟨i, rfl, hw⟩ := cell_int Try.underlying3 h
      exact ⟨i, rfl, hw⟩) hf
  have e : xs = ws.map (Value.int .i64) := by
    apply List.ext_getElem?
    intro i
    have hx := h2.len
    rw [List.getElem?_map]
    by_cases hi : i < ws.length
    · have := (h2.2 i _ (List.getElem?_eq_getElem hi)).1
      have e0 : ((xs.drop (i * 1)).take 1)[0]? = xs[i]? := by rw [List.getElem?_take, List.getElem?_drop]; simp
      rw [this] at e0
      simp [List.getElem?_eq_getElem hi, ← e0]
    · rw [List.getElem?_eq_none (by omega), List.getElem?_eq_none (by omega)]; rfl
  subst e
  refine ⟨A, n, c, ws, rfl, h1, fun x hm => ?_⟩
  obtain ⟨i, hi, rfl⟩ := List.getElem_of_mem hm
  exact (h2.2 i _ (List.getElem?_eq_getElem hi)).2
end
end Go.Proofs.Ytkddillihhjghaa
/-
  Walks: bits.room, wide, Bytes; the reference's Bytes, bit.
  Conditions: none.
-/
namespace Go.Proofs.Ytkddillihhjghaa
set_option linter.unusedVariables false
set_option linter.unusedSimpArgs false
open Go.RowKit
theorem ret_bool' {a b : Bool} (h : a = b) : Ending.returned (.bool a) = .returned (.bool b) := by rw [h]
theorem room_any {A : Option Addr} {n c : Nat} (p m : Int) (w : World) (hn : n ≤ 1000000) :
    Calls Try.prog 55 #[.slice A n c, .int .i64 p, .int .i64 m] w fun e w' => e = .returned (.int .i64 (Bt.roomS n p m)) ∧ w = w' := by
  unfold Bt.roomS
  by_cases h : m < 1 ∨ 64 < m ∨ p < 0
  · rw [if_pos h]
    rcases (show m < 1 ∨ (1 ≤ m ∧ 64 < m) ∨ (1 ≤ m ∧ m ≤ 64 ∧ p < 0) by omega) with h | ⟨h1, h2⟩ | ⟨h1, h2, h3⟩
    all_goals
      go_enter Try.func55, Try.ntmps55
      go_wp2_with fail
      go_ret
      exact ⟨rfl, rfl⟩
  · rw [if_neg h]
    have h1 : 1 ≤ m := by omega
    have h2 : m ≤ 64 := by omega
    have h3 : 0 ≤ p := by omega
    clear h
    by_cases h : 8 * (n : Int) < p
    · rw [if_pos (.inl h)]
      go_enter Try.func55, Try.ntmps55
      go_wp2_with fail
      go_ret
      exact ⟨rfl, rfl⟩
    · by_cases h' : 8 * (n : Int) - p < m
      · rw [if_pos (.inr h')]
        go_enter Try.func55, Try.ntmps55
        go_wp2_with fail
        go_ret
        exact ⟨rfl, rfl⟩
      · rw [if_neg (by omega)]
        go_enter Try.func55, Try.ntmps55
        go_wp2_with fail
        go_ret
        exact ⟨rfl, rfl⟩
theorem Bytes_any (m : Int) (w : World) (hm : m ≤ 9223372036854775807) : Calls Try.prog 41 #[.int .i64 m] w fun e w' => e = .returned (.int .i64 (Bt.bytesS m)) ∧ w = w' := by
  unfold Bt.bytesS
  by_cases h : m < 1
  · rw [if_pos h]
    go_enter Try.func41, Try.ntmps41
    go_wp2_with fail
    go_ret
    exact ⟨rfl, rfl⟩
  · rw [if_neg h]
    go_enter Try.func41, Try.ntmps41
    go_wp2_with fail
    go_ret
    exact ⟨rfl, rfl⟩
end Go.Proofs.Ytkddillihhjghaa
/-
  Walks: bits.Get, the reference's Get.
  Conditions: none.
-/
namespace Go.Proofs.Ytkddillihhjghaa
set_option linter.unusedVariables false
set_option linter.unusedSimpArgs false
open Go.RowKit
theorem or_bit (x y j k : Nat) (hx : x < 2 ^ 8) (hy : y < 2 ^ k) (hk : k < 64) :
    bits .or .u64 (y : Int) (IntKind.u64.wrap (IntKind.u64.wrap (bits .and .u8 ((x : Int) / 2 ^ j) 1) * 2 ^ k)) = ((y + x / 2 ^ j % 2 * 2 ^ k : Nat) : Int) := by
  have e1 : (x : Int) / 2 ^ j = ((x / 2 ^ j : Nat) : Int) := by simp
  have hle : x / 2 ^ j ≤ x := Nat.div_le_self _ _
  have e2 : bits .and .u8 ((x : Int) / 2 ^ j) 1 = ((x / 2 ^ j % 2 : Nat) : Int) := by
    rw [e1]
    have := u8_and_nat (x / 2 ^ j) 1 (by omega) (by omega)
    rw [Nat.and_one_is_mod] at this
    exact this
  have hb : x / 2 ^ j % 2 < 2 := Nat.mod_lt _ (by decide)
  rw [e2]
  generalize x / 2 ^ j % 2 = z at *
  have hpk : 2 ^ k ≤ 2 ^ 63 := Nat.pow_le_pow_right (by decide) (by omega)
  have hzk : z * 2 ^ k ≤ 1 * 2 ^ k := Nat.mul_le_mul_right _ (by omega)
  have e3 : IntKind.u64.wrap (IntKind.u64.wrap ((z : Nat) : Int) * 2 ^ k) = ((z * 2 ^ k : Nat) : Int) := by
    rw [IntKind.wrap_u64, IntKind.wrap_u64, Int.emod_eq_of_lt (a := (z : Int)) (by omega) (by omega), show (z : Int) * 2 ^ k = ((z * 2 ^ k : Nat) : Int) by simp]
    omega
  rw [e3, u64_or_nat _ _ (by omega) (by omega)]
  congr 1
  rw [Nat.or_comm, Nat.mul_comm z, ← Nat.two_pow_add_eq_or_of_lt hy]
  omega
set_option maxHeartbeats 1000000 in
theorem BGet_bad {A : Option Addr} {n c : Nat} (p m : Int) (w : World) (hn : n ≤ 1000000) (h : Bt.roomS n p m ≠ 0) :
    Calls Try.prog 39 #[.slice A n c, .int .i64 p, .int .i64 m] w fun e w' => e = .returned (.tuple #[.int .u64 0, .int .i64 (Bt.roomS n p m)]) ∧ w = w' := by
  have C := Lib.hid (room_any (A := A) (c := c) p m w hn)
  have hz : (Bt.roomS n p m != 0) = true := by simpa using h
  generalize Bt.roomS n p m = z at *
  clear h
  go_enter Try.func39, Try.ntmps39
  go_wp2_with fail
  refine (C.out).mono ?_
  rintro e _ ⟨rfl, rfl⟩
  go_wp2_with fail
  go_ret2
  exact ⟨rfl, rfl⟩
set_option maxHeartbeats 1000000 in
theorem BGet_ok {A : Option Addr} {n c B : Nat} {l : List UInt8} (p m : Nat) (w : World) (hb : RB w B A n c l) (hn : n ≤ 1000000) (h1 : 1 ≤ m) (h2 : m ≤ 64) (h3 : p + m ≤ 8 * n) :
    Calls Try.prog 39 #[.slice A n c, .int .i64 (p : Int), .int .i64 (m : Int)] w fun e w' => e = .returned (.tuple #[.int .u64 (Bt.lowF l p m : Int), .int .i64 0]) ∧ w = w' := by
  have C := room_any (A := A) (c := c) (p : Int) (m : Int) w hn
  rw [show Bt.roomS n p m = 0 by unfold Bt.roomS; rw [if_neg (by omega), if_neg (by omega)]] at C
  replace C := Lib.hid C
  go_enter Try.func39, Try.ntmps39
  go_wp2_with fail
  refine (C.out).mono ?_
  rintro e _ ⟨rfl, rfl⟩
  go_wp2_with fail
  go_loopw [9, 20] (fun v u wr => ∃ k : Nat, k ≤ m ∧ u = .int .i64 k ∧ v = .int .u64 (Bt.lowF l p k : Int) ∧ w = wr) (fun _ u _ => m - (intOf u).toNat)
  case atStart => exact ⟨0, by omega, rfl, rfl, rfl⟩
  case round =>
    obtain ⟨k, hk, rfl, rfl, rfl⟩ := hrel
    by_cases hlt : k < m
    · obtain ⟨b, o, rfl, hbB, hc⟩ := hb.at_ (show 0 < n by omega)
      have hcell := hc ((p + k) / 8) (by omega)
      have hx := (l.getD ((p + k) / 8) 0).toNat_lt
      have hbt : Bt.bt l (p + k) = (l.getD ((p + k) / 8) 0).toNat / 2 ^ ((p + k) % 8) % 2 := rfl
      have hlo := Bt.lowF_lt l p k
      have hnx : Bt.lowF l p (k + 1) = Bt.lowF l p k + Bt.bt l (p + k) * 2 ^ k := rfl
      generalize (l.getD ((p + k) / 8) 0).toNat = x at *
      generalize Bt.lowF l p k = y at *
      have HB := Lib.hid hbt; have HN := Lib.hid hnx; have HL := Lib.hid hlo; clear hbt hnx hlo hc
      go_wp2_with fail
      go_roundw
      case rel =>
        refine ⟨k + 1, by omega, by go_num, ?_, by trivial⟩
        rw [HN.out, HB.out]
        exact congrArg _ (or_bit x y ((p + k) % 8) k hx HL.out (by omega))
      case measure => simp [intOf] <;> omega
    · obtain rfl : k = m := by omega
      go_wp2_with fail
      go_ret2
      exact ⟨rfl, rfl⟩
end Go.Proofs.Ytkddillihhjghaa
/-
  Walks: bits.value, the reference's number; the closures of Pack and Unpack.
  Conditions: none.
-/
namespace Go.Proofs.Ytkddillihhjghaa
set_option linter.unusedVariables false
set_option linter.unusedSimpArgs false
open Go.RowKit
theorem cut_all (l : List UInt8) : Oct.cut l 0 l.length = l := by simp [Oct.cut]
/-- The bytes of a number from the highest one down: k of them. -/
theorem le_down (l : List UInt8) (k : Nat) (h : k < l.length) : Oct.le (l.drop (l.length - 1 - k)) = 256 * Oct.le (l.drop (l.length - k)) + (l.getD (l.length - 1 - k) 0).toNat := by
  have e : l.drop (l.length - 1 - k) = l.getD (l.length - 1 - k) 0 :: l.drop (l.length - k) := by
    rw [List.drop_eq_getElem_cons (show l.length - 1 - k < l.length by omega), show l.length - 1 - k + 1 = l.length - k by omega]
    simp [List.getD, show l.length - 1 - k < l.length by omega]
  rw [e, Oct.le]
  omega
theorem wide_shift (v j : Nat) (h : (j : Int) < 64) : (((v : Nat) : Int) / 2 ^ j == 0) = !Bt.wideS v (j : Int) := by
  unfold Bt.wideS
  have e : (v : Int) / 2 ^ j = ((v / 2 ^ j : Nat) : Int) := by simp
  rw [e, show decide ((j : Int) < 64) = true from decide_eq_true h, Bool.true_and, Int.toNat_natCast]
  generalize v / 2 ^ j = x
  rw [Bool.eq_iff_iff]
  simp only [beq_iff_eq, Bool.not_eq_true', bne_eq_false_iff_eq]
  omega
end Go.Proofs.Ytkddillihhjghaa
/-
  Walks: the closures of Pack and Unpack, and total over them.
  Conditions: none.
-/
namespace Go.Proofs.Ytkddillihhjghaa
set_option linter.unusedVariables false
set_option linter.unusedSimpArgs false
open Go.RowKit
theorem unpack1_any (m : Int) (w : World) : Calls Try.prog 38 #[.int .i64 m] w fun e w' => e = .returned (.tuple #[.int .i64 m, .bool (Bt.okW m)]) ∧ w = w' := by
  by_cases h1 : 1 ≤ m
  · by_cases h2 : m ≤ 64
    · rw [show Bt.okW m = true from Bt.okW_iff.2 ⟨h1, h2⟩]
      go_enter Try.func38, Try.ntmps38
      go_wp2_with fail
      go_ret2
      exact ⟨rfl, rfl⟩
    · rw [show Bt.okW m = false by unfold Bt.okW; exact decide_eq_false (by omega)]
      go_enter Try.func38, Try.ntmps38
      go_wp2_with fail
      go_ret2
      exact ⟨rfl, rfl⟩
  · rw [show Bt.okW m = false by unfold Bt.okW; exact decide_eq_false (by omega)]
    go_enter Try.func38, Try.ntmps38
    go_wp2_with fail
    go_ret2
    exact ⟨rfl, rfl⟩
theorem tot_bad {ws : List Int} {ok : List Bool} {i : Nat} (hi : i < ok.length) (h : ok.getD i false = false) : Bt.totS ws ok = (0, 1) := by
  unfold Bt.totS
  rw [Bt.all_not hi h]
  rfl
theorem tot_big {ws : List Int} {ok : List Bool} (h : ∀ i, i < ok.length → ok.getD i false = true) (hs : 64 < Bt.sumK ws ws.length) : Bt.totS ws ok = (0, 3) := by
  unfold Bt.totS
  rw [Bt.all_of h, if_pos rfl, if_pos hs]
theorem tot_ok {ws : List Int} {ok : List Bool} (h : ∀ i, i < ok.length → ok.getD i false = true) (hs : Bt.sumK ws ws.length ≤ 64) : Bt.totS ws ok = (Bt.sumK ws ws.length, 0) := by
  unfold Bt.totS
  rw [Bt.all_of h, if_pos rfl, if_neg (by omega)]
def TotPost (p : Int × Int) (w : World) (e : Ending) (w' : World) : Prop := e = .returned (.tuple #[.int .i64 p.1, .int .i64 p.2]) ∧ Below w.heap.size w w'
theorem tot_mk {p : Int × Int} {w w' : World} {a b : Int} (h : p = (a, b)) (hb : Below w.heap.size w w') : TotPost p w (.returned (.tuple #[.int .i64 a, .int .i64 b])) w' := by
  subst h; exact ⟨rfl, hb⟩
/-- What the loop over the first k has: their bits in all, cut at 65. -/
structure TotRel (ws : List Int) (ok : List Bool) (k : Nat) (s : Int) : Prop where
  lo : 0 ≤ s
  hi : s ≤ 65
  sum : s ≤ 64 → s = Bt.sumK ws k
  big : s = 65 → 65 ≤ Bt.sumK ws k
  all : ∀ i, i < k → ok.getD i false = true
theorem tot_start (ws : List Int) (ok : List Bool) : TotRel ws ok 0 0 := ⟨by omega, by omega, fun _ => rfl, fun h => by omega, fun _ h => absurd h (by omega)⟩
theorem TotRel.next {ws : List Int} {ok : List Bool} {k : Nat} {s x : Int} (h : TotRel ws ok k s) (h1 : 1 ≤ x) (hx : ws.getD k 0 = x) (ho : ok.getD k false = true) (s' : Int) (hs : (s + x ≤ 64 ∧ s' = s + x) ∨ (65 ≤ s + x ∧ s' = 65)) : TotRel ws ok (k + 1) s' := by
  have a := h.lo
  have b := h.hi
  refine ⟨by omega, by omega, fun h64 => ?_, fun h65 => ?_, fun i hi => ?_⟩
  · have := h.sum (by omega)
    rw [Bt.sumK, hx]
    omega
  · rw [Bt.sumK, hx]
    by_cases e : s = 65
    · have := h.big e
      omega
    · have := h.sum (by omega)
      omega
  · rcases Nat.lt_or_ge i k with hi' | hi'
    · exact h.all i hi'
    · obtain rfl : i = k := by omega
      exact ho
theorem TotRel.toBig {ws : List Int} {ok : List Bool} {k : Nat} (h : TotRel ws ok k 65) (hw : ws.length = k) (ho : ok.length = k) : Bt.totS ws ok = (0, 3) :=
  tot_big (fun i hi => h.all i (by omega)) (by rw [hw]; have := h.big rfl; omega)
theorem TotRel.fine {ws : List Int} {ok : List Bool} {k : Nat} {s : Int} (h : TotRel ws ok k s) (hw : ws.length = k) (ho : ok.length = k) (hs : s ≤ 64) : Bt.totS ws ok = (s, 0) := by
  have e := h.sum hs
  rw [tot_ok (fun i hi => h.all i (by omega)) (by rw [hw]; omega), hw, ← e]
set_option maxRecDepth 100000 in
set_option maxHeartbeats 2000000 in
theorem totali_any {A : Option Addr} {n c B : Nat} {ws : List Int} (w : World) (h : RI w B A n c ws) (hn : n ≤ 1000000) (hm : ∀ x ∈ ws, x ≤ 9223372036854775807) :
    Calls Try.prog 37 #[.func (.func 38) #[] #[], .slice A n c] w fun e w' => e = .returned (.tuple #[.int .i64 (Bt.totS ws (ws.map Bt.okW)).1, .int .i64 (Bt.totS ws (ws.map Bt.okW)).2]) ∧ w = w' := by
  have hl := h.len
  generalize hres : Bt.totS ws (ws.map Bt.okW) = res
  have HRES := Lib.hid hres; clear hres
  go_enter Try.func37, Try.ntmps37
  go_wp2_with fail
  go_loopw [6, 13] (fun v u wr => ∃ (k : Nat) (s : Int), k ≤ n ∧ u = .int .i64 k ∧ v = .int .i64 s ∧ TotRel ws (ws.map Bt.okW) k s ∧ w = wr) (fun _ u _ => n - (intOf u).toNat)
  case atStart => exact ⟨0, 0, by omega, rfl, rfl, tot_start _ _, rfl⟩
  case round =>
    obtain ⟨k, s, hk, rfl, rfl, hrel, rfl⟩ := hrel
    have hs1 := hrel.lo
    have hs2 := hrel.hi
    have HREL := Lib.hid hrel; clear hrel
    by_cases hlt : k < n
    · obtain ⟨b, o, rfl, hbB, q0⟩ := h.at_ hlt
      have hmem : ws.getD k 0 ∈ ws := by
        have : k < ws.length := by omega
        rw [show ws.getD k 0 = ws[k] by simp [List.getD, this]]
        exact List.getElem_mem this
      have hb := hm _ hmem
      have hok := Bt.okW_getD ws k
      generalize hx : ws.getD k 0 = m at *
      have HX := Lib.hid hx
      have C := unpack1_any m w
      have hfb := fun h => (Bt.okW_iff (w := m)).1 h
      generalize Bt.okW m = x at *
      replace C := Lib.hid C
      have HOK := Lib.hid hok
      clear hok hx hmem
      cases x with
      | false =>
        clear hfb
        go_wp2_with fail
        refine (C.out).mono ?_
        rintro e _ ⟨rfl, rfl⟩
        go_wp2_with fail
        go_ret2
        exact ⟨by rw [← HRES.out, tot_bad (i := k) (by rw [List.length_map]; omega) HOK.out]; rfl, rfl⟩
      | true =>
        obtain ⟨g1, g2⟩ := hfb rfl
        clear hfb
        go_wp2_with fail
        refine (C.out).mono ?_
        rintro e _ ⟨rfl, rfl⟩
        go_wp2_with fail
        go_roundw
        case rel =>
          refine ⟨k + 1, _, by omega, by go_num, rfl, HREL.out.next g1 HX.out HOK.out _ ?_, by trivial⟩
          split <;> omega
        case measure => simp [intOf] <;> omega
    · obtain rfl : k = n := by omega
      by_cases h65 : s = 65
      · subst h65
        go_wp2_with fail
        go_ret2
        exact ⟨by rw [← HRES.out, HREL.out.toBig hl (by simpa using hl)]; rfl, rfl⟩
      · have h64 : s ≤ 64 := by omega
        clear h65
        go_wp2_with fail
        go_ret2
        exact ⟨by rw [← HRES.out, HREL.out.fine hl (by simpa using hl) h64]; rfl, rfl⟩
end Go.Proofs.Ytkddillihhjghaa
/-
  Walks: bits.Put, the reference's Put.
  Conditions: none.
-/
namespace Go.Proofs.Ytkddillihhjghaa
set_option linter.unusedVariables false
set_option linter.unusedSimpArgs false
open Go.RowKit
theorem test_bit (v k : Nat) (hv : v < 18446744073709551616) : (bits .and .u64 ((v : Int) / 2 ^ k) 1 == 1) = v.testBit k := by
  have e1 : (v : Int) / 2 ^ k = ((v / 2 ^ k : Nat) : Int) := by simp
  have hle : v / 2 ^ k ≤ v := Nat.div_le_self _ _
  have e2 : bits .and .u64 ((v : Int) / 2 ^ k) 1 = ((v / 2 ^ k % 2 : Nat) : Int) := by
    rw [e1]
    have := u64_and_nat (v / 2 ^ k) 1 (by omega) (by omega)
    rw [Nat.and_one_is_mod] at this
    exact this
  rw [e2, Nat.testBit_eq_decide_div_mod_eq]
  rw [Bool.eq_iff_iff]
  simp only [beq_iff_eq, decide_eq_true_eq]
  omega
theorem pow_byte {j : Nat} (hj : j < 8) : (2 : Int) ^ j % 256 = ((2 ^ j : Nat) : Int) ∧ 2 ^ j < 256 := by
  have h : 2 ^ j ≤ 2 ^ 7 := Nat.pow_le_pow_right (by decide) (by omega)
  have e : (2 : Int) ^ j = ((2 ^ j : Nat) : Int) := by simp
  rw [e]
  generalize 2 ^ j = q at *
  omega
theorem or_byte (c : UInt8) (j : Nat) (hj : j < 8) : bits .or .u8 (c.toNat : Int) ((2 : Int) ^ j % 256) = ((Bt.sb c j true).toNat : Int) := by
  obtain ⟨e, hlt⟩ := pow_byte hj
  have hc := c.toNat_lt
  have ho : c.toNat ||| 2 ^ j < 2 ^ 8 := Nat.or_lt_two_pow hc hlt
  rw [e, u8_or_nat _ _ (by omega) hlt, Bt.sb, if_pos rfl, UInt8.toNat_ofNat', Nat.mod_eq_of_lt ho]
theorem andNot_byte (c : UInt8) (j : Nat) (hj : j < 8) : bits .andNot .u8 (c.toNat : Int) ((2 : Int) ^ j % 256) = ((Bt.sb c j false).toNat : Int) := by
  obtain ⟨e, hlt⟩ := pow_byte hj
  have hc := c.toNat_lt
  have ho : c.toNat &&& (255 - 2 ^ j) < 2 ^ 8 := Nat.lt_of_le_of_lt Nat.and_le_left hc
  rw [e, u8_andNot_nat _ _ (by omega) hlt, Bt.sb, if_neg (by decide), UInt8.toNat_ofNat', Nat.mod_eq_of_lt ho]
theorem room_range (n : Nat) (p m : Int) : Bt.roomS n p m = 1 ∨ (1 ≤ m ∧ m ≤ 64 ∧ 0 ≤ p ∧ (Bt.roomS n p m = 2 ∨ (Bt.roomS n p m = 0 ∧ p + m ≤ 8 * (n : Int)))) := by
  unfold Bt.roomS
  by_cases h : m < 1 ∨ 64 < m ∨ p < 0
  · rw [if_pos h]; exact .inl rfl
  · rw [if_neg h]
    right
    refine ⟨by omega, by omega, by omega, ?_⟩
    by_cases h' : 8 * (n : Int) < p ∨ 8 * (n : Int) - p < m
    · rw [if_pos h']; exact .inl rfl
    · rw [if_neg h']; exact .inr ⟨rfl, by omega⟩
end Go.Proofs.Ytkddillihhjghaa
/-
  Walks: the reference's Put of bits.
  Conditions: none.
-/
namespace Go.Proofs.Ytkddillihhjghaa
set_option linter.unusedVariables false
set_option linter.unusedSimpArgs false
open Go.RowKit
theorem two_steps : ∀ j, j < 8 → ∀ c, c < 256 → ((c &&& (255 - 2 ^ j)) ||| 2 ^ j) = (c ||| 2 ^ j) := by decide +kernel
theorem sb_twice (c : UInt8) (j : Nat) (hj : j < 8) : Bt.sb (Bt.sb c j false) j true = Bt.sb c j true := by
  have hc := c.toNat_lt
  have ho : c.toNat &&& (255 - 2 ^ j) < 256 := Nat.lt_of_le_of_lt Nat.and_le_left hc
  have e : (Bt.sb c j false).toNat = c.toNat &&& (255 - 2 ^ j) := by
    rw [Bt.sb, if_neg (by decide), UInt8.toNat_ofNat', Nat.mod_eq_of_lt (by simpa using ho)]
  rw [Bt.sb, if_pos rfl, e, two_steps j hj _ hc, Bt.sb, if_pos rfl]
theorem setB_twice (l : List UInt8) (i : Nat) : Bt.setB (Bt.setB l i false) i true = Bt.setB l i true := by
  unfold Bt.setB
  by_cases h : i / 8 < l.length
  · have e : (l.set (i / 8) (Bt.sb (l.getD (i / 8) 0) (i % 8) false)).getD (i / 8) 0 = Bt.sb (l.getD (i / 8) 0) (i % 8) false := by simp [List.getD, h]
    rw [e, sb_twice _ _ (Nat.mod_lt _ (by decide)), List.set_set]
  · have e : ∀ x, l.set (i / 8) x = l := fun x => List.set_eq_of_length_le (by omega)
    simp only [e]
theorem test_mod (v k : Nat) : (((v / 2 ^ k : Nat) : Int).tmod 2 == 1) = v.testBit k := by
  rw [Nat.testBit_eq_decide_div_mod_eq, Int.tmod_eq_emod_of_nonneg (Int.natCast_nonneg _), Bool.eq_iff_iff]
  simp only [beq_iff_eq, decide_eq_true_eq]
  generalize v / 2 ^ k = y
  omega
theorem test_emod (v k : Nat) : (((v / 2 ^ k : Nat) : Int) % 2 == 1) = v.testBit k := by
  rw [Nat.testBit_eq_decide_div_mod_eq, Bool.eq_iff_iff]
  simp only [beq_iff_eq, decide_eq_true_eq]
  generalize v / 2 ^ k = y
  omega
theorem wide_test {v : Nat} {m : Int} {b : Bool} (h : Bt.wideS v m = b) (hm : m < 64) : ((v : Int) / 2 ^ m.toNat != 0) = b := by
  unfold Bt.wideS at h
  rw [show decide (m < 64) = true from decide_eq_true hm, Bool.true_and] at h
  have e : (v : Int) / 2 ^ m.toNat = ((v / 2 ^ m.toNat : Nat) : Int) := by simp
  rw [e, ← h]
  generalize v / 2 ^ m.toNat = y
  rw [Bool.eq_iff_iff]
  simp only [bne_iff_ne, ne_eq]
  omega
end Go.Proofs.Ytkddillihhjghaa
/-
  Walks: bits.Pack, the reference's Pack.
  Conditions: none.
-/
namespace Go.Proofs.Ytkddillihhjghaa
set_option linter.unusedVariables false
set_option linter.unusedSimpArgs false
open Go.RowKit
theorem tot_inv {ws : List Int} {ok : List Bool} {z : Int} (h : Bt.totS ws ok = (z, 0)) : (∀ i, i < ok.length → ok.getD i false = true) ∧ z = Bt.sumK ws ws.length ∧ z ≤ 64 := by
  unfold Bt.totS at h
  split at h
  · rename_i h1
    split at h
    · simp at h
    · rename_i h2
      simp only [Prod.mk.injEq, and_true] at h
      exact ⟨fun i hi => Bt.all_get h1 hi, h.symm, by omega⟩
  · simp at h
/-- What the rounds of packing need of field k. -/
theorem pack_step {fs : List Bt.Fld} {z : Int} (h : Bt.totS (Bt.bitsOf fs) (fs.map Bt.okF) = (z, 0)) {k : Nat} (hk : k < fs.length) :
    Bt.okF (fs.getD k Bt.Fld.zero) = true ∧ 0 ≤ Bt.sumK (Bt.bitsOf fs) k ∧ Bt.sumK (Bt.bitsOf fs) k + (fs.getD k Bt.Fld.zero).bits = Bt.sumK (Bt.bitsOf fs) (k + 1) ∧ Bt.sumK (Bt.bitsOf fs) (k + 1) ≤ z := by
  obtain ⟨h1, h2, h3⟩ := tot_inv h
  have hw : ∀ i, i < (Bt.bitsOf fs).length → Bt.okW ((Bt.bitsOf fs).getD i 0) = true := fun i hi => by
    have hi' : i < fs.length := by simpa [Bt.bitsOf] using hi
    have := h1 i (by simpa using hi')
    rw [Bt.okF_getD] at this
    rw [Bt.bitsOf_getD]
    have := Bt.okF_fits this
    exact Bt.okW_iff.2 ⟨this.1, this.2.1⟩
  have hl : (Bt.bitsOf fs).length = fs.length := by simp [Bt.bitsOf]
  refine ⟨by have := h1 k (by simpa using hk); rwa [Bt.okF_getD] at this, by have := Bt.sumK_mono hw k (by omega); omega, by rw [Bt.sumK, Bt.bitsOf_getD], ?_⟩
  have := Bt.sumK_le hw (k + 1) (fs.length - (k + 1)) (by omega)
  rw [show k + 1 + (fs.length - (k + 1)) = fs.length by omega] at this
  rw [h2, hl]
  omega
theorem getD_mem {fs : List Bt.Fld} {k : Nat} (hk : k < fs.length) : fs.getD k Bt.Fld.zero ∈ fs := by
  rw [show fs.getD k Bt.Fld.zero = fs[k] by simp [List.getD, hk]]
  exact List.getElem_mem hk
theorem room_ok {n : Nat} {p m : Int} (h0 : 0 ≤ p) (h1 : 1 ≤ m) (h2 : m ≤ 64) (h3 : p + m ≤ 8 * (n : Int)) : Bt.roomS n p m = 0 := by
  unfold Bt.roomS
  rw [if_neg (by omega), if_neg (by omega)]
def PackPost (p : List UInt8 × Int) (w : World) (e : Ending) (w' : World) : Prop := ∃ A1 c1, e = .returned (.tuple #[.slice A1 p.1.length c1, .int .i64 p.2]) ∧ OB w' w.heap.size A1 p.1.length c1 p.1 ∧ Below w.heap.size w w'
theorem pack_bad {p : List UInt8 × Int} {w w' : World} {x : Int} (h : p = ([], x)) (hb : Below w.heap.size w w') : PackPost p w (.returned (.tuple #[.slice none 0 0, .int .i64 x])) w' := by
  subst h
  exact ⟨none, 0, rfl, OB.none_ _ _, hb⟩
theorem pack_fine {p : List UInt8 × Int} {w w' : World} {A : Option Addr} {n c : Nat} {l : List UInt8} (h : p = (l, 0)) (hn : l.length = n) (ho : OB w' w.heap.size A n c l) (hb : Below w.heap.size w w') : PackPost p w (.returned (.tuple #[.slice A n c, .int .i64 0])) w' := by
  subst h hn
  exact ⟨A, c, rfl, ho, hb⟩
theorem packS_bad {fs : List Bt.Fld} {z x : Int} (h : Bt.totS (Bt.bitsOf fs) (fs.map Bt.okF) = (z, x)) (hx : x ≠ 0) : Bt.packS fs = ([], x) := by
  unfold Bt.packS
  rw [h, if_neg hx]
theorem packS_fine {fs : List Bt.Fld} {z : Int} (h : Bt.totS (Bt.bitsOf fs) (fs.map Bt.okF) = (z, 0)) : Bt.packS fs = (Bt.packK fs (List.replicate (Bt.bytesS z).toNat 0) fs.length, 0) := by
  unfold Bt.packS
  rw [h, if_pos rfl]
theorem bytesS_nat (z : Int) (h1 : 0 ≤ z) (h2 : z ≤ 64) : ∃ k : Nat, Bt.bytesS z = (k : Int) ∧ k ≤ 8 ∧ z ≤ 8 * (k : Int) := by
  unfold Bt.bytesS
  split
  · exact ⟨0, by omega, by omega, by omega⟩
  · exact ⟨((z - 1) / 8 + 1).toNat, by omega, by omega, by omega⟩
/-- What the reference's first loop has: it adds no more above 64. -/
structure RTotRel (ws : List Int) (ok : List Bool) (k : Nat) (s : Int) : Prop where
  lo : 0 ≤ s
  hi : s ≤ 128
  sum : s ≤ 64 → s = Bt.sumK ws k
  big : 65 ≤ s → 65 ≤ Bt.sumK ws k
  all : ∀ i, i < k → ok.getD i false = true
theorem rtot_start (ws : List Int) (ok : List Bool) : RTotRel ws ok 0 0 := ⟨by omega, by omega, fun _ => rfl, fun h => by omega, fun _ h => absurd h (by omega)⟩
theorem RTotRel.next {ws : List Int} {ok : List Bool} {k : Nat} {s x : Int} (h : RTotRel ws ok k s) (h1 : 1 ≤ x) (h2 : x ≤ 64) (hx : ws.getD k 0 = x) (ho : ok.getD k false = true) (s' : Int) (hs : (s ≤ 64 ∧ s' = s + x) ∨ (65 ≤ s ∧ s' = s)) : RTotRel ws ok (k + 1) s' := by
  have a := h.lo
  have b := h.hi
  refine ⟨by omega, by omega, fun h64 => ?_, fun h65 => ?_, fun i hi => ?_⟩
  · have := h.sum (by omega)
    rw [Bt.sumK, hx]
    omega
  · rw [Bt.sumK, hx]
    by_cases e : 65 ≤ s
    · have := h.big e
      omega
    · have := h.sum (by omega)
      omega
  · rcases Nat.lt_or_ge i k with hi' | hi'
    · exact h.all i hi'
    · obtain rfl : i = k := by omega
      exact ho
theorem RTotRel.toBig {ws : List Int} {ok : List Bool} {k : Nat} {s : Int} (h : RTotRel ws ok k s) (hw : ws.length = k) (ho : ok.length = k) (hs : 65 ≤ s) : Bt.totS ws ok = (0, 3) :=
  tot_big (fun i hi => h.all i (by omega)) (by rw [hw]; have := h.big hs; omega)
theorem RTotRel.fine {ws : List Int} {ok : List Bool} {k : Nat} {s : Int} (h : RTotRel ws ok k s) (hw : ws.length = k) (ho : ok.length = k) (hs : s ≤ 64) : Bt.totS ws ok = (s, 0) := by
  have e := h.sum hs
  rw [tot_ok (fun i hi => h.all i (by omega)) (by rw [hw]; omega), hw, ← e]
end Go.Proofs.Ytkddillihhjghaa
/-
  Walks: bits.Unpack.
  Conditions: none.
-/
namespace Go.Proofs.Ytkddillihhjghaa
set_option linter.unusedVariables false
set_option linter.unusedSimpArgs false
open Go.RowKit
theorem lb_take : ∀ (m k v : Nat), k ≤ m → (Oct.lb m v).take k = Oct.lb k v
  | 0, k, v, h => by
    obtain rfl : k = 0 := by omega
    simp [Oct.lb]
  | m + 1, k, v, h => by
    rcases Nat.lt_or_ge m k with h1 | h1
    · obtain rfl : k = m + 1 := by omega
      exact List.take_of_length_le (by rw [Oct.lb_length]; omega)
    · rw [Oct.lb, List.take_append_of_le_length (by rw [Oct.lb_length]; omega), lb_take m k v h1]
theorem Put8 (v : Nat) (w : World) (hv : v < 18446744073709551616) :
    Calls Try.prog 40 #[.slice none 0 0, .int .i64 8, .int .u64 (v : Int)] w fun e w' => ∃ A1 c1, e = .returned (.tuple #[.slice A1 8 c1, .int .i64 0]) ∧ OB w' w.heap.size A1 8 c1 (Oct.lb 8 v) ∧ Below w.heap.size w w' := by
  have := Put_ok 8 v w (RB.none_ (B := 0)) (by omega) (Nat.zero_le _) (by omega) (by omega) hv (by omega)
  simp only [Nat.zero_add, List.nil_append] at this
  exact this
def UnpPost (T : Nat) (p : List Bt.Fld × Int) (w : World) (e : Ending) (w' : World) : Prop := ∃ A c, e = .returned (.tuple #[.slice A p.1.length c, .int .i64 p.2]) ∧ OS (FlW w' w.heap.size) w' w.heap.size T 2 A p.1.length c p.1 ∧ Below w.heap.size w w'
theorem unp_bad {T : Nat} {p : List Bt.Fld × Int} {w w' : World} {x : Int} (h : p = ([], x)) (hb : Below w.heap.size w w') : UnpPost T p w (.returned (.tuple #[.slice none 0 0, .int .i64 x])) w' := by
  subst h
  exact ⟨none, 0, rfl, OS.none_ _ _ _ _, hb⟩
theorem unp_fine {T : Nat} {p : List Bt.Fld × Int} {w w' : World} {A : Option Addr} {n c : Nat} {l : List Bt.Fld} (h : p = (l, 0)) (hn : l.length = n) (ho : OS (FlW w' w.heap.size) w' w.heap.size T 2 A n c l) (hb : Below w.heap.size w w') : UnpPost T p w (.returned (.tuple #[.slice A n c, .int .i64 0])) w' := by
  subst h hn
  exact ⟨A, c, rfl, ho, hb⟩
theorem unpackS_bad {b : List UInt8} {ws : List Int} {z x : Int} (h : Bt.totS ws (ws.map Bt.okW) = (z, x)) (hx : x ≠ 0) : Bt.unpackS b ws = ([], x) := by
  unfold Bt.unpackS
  rw [h, if_neg hx]
theorem unpackS_short {b : List UInt8} {ws : List Int} {z : Int} (h : Bt.totS ws (ws.map Bt.okW) = (z, 0)) (hs : 8 * (b.length : Int) < z) : Bt.unpackS b ws = ([], 2) := by
  unfold Bt.unpackS
  rw [h, if_pos rfl, if_pos hs]
theorem unpackS_fine {b : List UInt8} {ws : List Int} {z : Int} (h : Bt.totS ws (ws.map Bt.okW) = (z, 0)) (hs : z ≤ 8 * (b.length : Int)) : Bt.unpackS b ws = (Bt.unpK b ws ws.length, 0) := by
  unfold Bt.unpackS
  rw [h, if_pos rfl, if_neg (by simpa using hs)]
theorem unp_step {ws : List Int} {z : Int} (h : Bt.totS ws (ws.map Bt.okW) = (z, 0)) {k : Nat} (hk : k < ws.length) :
    1 ≤ ws.getD k 0 ∧ ws.getD k 0 ≤ 64 ∧ 0 ≤ Bt.sumK ws k ∧ Bt.sumK ws k + ws.getD k 0 = Bt.sumK ws (k + 1) ∧ Bt.sumK ws (k + 1) ≤ z := by
  obtain ⟨h1, h2, h3⟩ := tot_inv h
  have hw : ∀ i, i < ws.length → Bt.okW (ws.getD i 0) = true := fun i hi => by
    have := h1 i (by simpa using hi)
    rwa [Bt.okW_getD] at this
  have h4 := Bt.okW_iff.1 (hw k hk)
  refine ⟨h4.1, h4.2, by have := Bt.sumK_mono hw k (by omega); omega, rfl, ?_⟩
  have := Bt.sumK_le hw (k + 1) (ws.length - (k + 1)) (by omega)
  rw [show k + 1 + (ws.length - (k + 1)) = ws.length by omega] at this
  omega
set_option maxRecDepth 100000 in
set_option maxHeartbeats 4000000 in
theorem Unpack_any {A : Option Addr} {n c B : Nat} {bs : List UInt8} {A' : Option Addr} {m c' B' : Nat} {ws : List Int} (w : World) (hb : RB w B A n c bs) (h : RI w B' A' m c' ws) (hn : n ≤ 1000000) (hm : m ≤ 1000000) (hB : B ≤ w.heap.size) (hB' : B' ≤ w.heap.size) (hx : ∀ x ∈ ws, x ≤ 9223372036854775807) :
    Calls Try.prog 25 #[.slice A n c, .slice A' m c'] w (UnpPost 88 (Bt.unpackS bs ws) w) := by
  have hl := h.len
  have hbl := hb.len
  have T := totali_any w h hm hx
  cases hp : Bt.totS ws (ws.map Bt.okW) with
  | mk z x =>
  rw [hp] at T
  have HP := Lib.hid hp; clear hp
  replace T := Lib.hid T
  dsimp only at T
  by_cases hx0 : x = 0
  · subst hx0
    obtain ⟨t1, t2, t3⟩ := tot_inv HP.out
    clear t1 t2
    by_cases hs : 8 * (n : Int) < z
    · have HPK := Lib.hid (unpackS_short (b := bs) HP.out (by rw [hbl]; exact hs))
      clear hbl hl hx
      go_enter Try.func25, Try.ntmps25
      go_wp2_with fail
      refine (T.out).mono ?_
      rintro e _ ⟨rfl, rfl⟩
      go_wp2_with fail
      go_ret2
      exact unp_bad HPK.out (Below.refl _ _)
    · have hs' : z ≤ 8 * (n : Int) := by omega
      have HPK := Lib.hid (unpackS_fine (b := bs) HP.out (by rw [hbl]; exact hs'))
      have HL := Lib.hid hl
      clear hbl hl hx
      go_enter Try.func25, Try.ntmps25
      go_wp2_with fail
      refine (T.out).mono ?_
      rintro e _ ⟨rfl, rfl⟩
      go_wp2_with fail
      go_loopw [8, 9, 33] (fun v a u wr => ∃ (k : Nat) (A1 : Option Addr) (c1 : Nat), k ≤ m ∧ u = .int .i64 k ∧ v = .slice A1 k c1 ∧ a = .int .i64 (Bt.sumK ws k) ∧ OS (FlW wr w.heap.size) wr w.heap.size 88 2 A1 k c1 (Bt.unpK bs ws k) ∧ Below w.heap.size w wr) (fun _ _ u _ => m - (intOf u).toNat)
      case atStart => exact ⟨0, _, _, by omega, rfl, rfl, rfl, OS.none_ _ _ _ _, Below.refl _ _⟩
      case round =>
        obtain ⟨k, A1, c1, hk, rfl, rfl, rfl, os, bb⟩ := hrel
        by_cases hlt : k < m
        · obtain ⟨b, o, rfl, hbB, q0⟩ := (h.below (bb.mono hB')).at_ hlt
          obtain ⟨s1, s2, s3, s4, s5⟩ := unp_step HP.out (k := k) (by rw [HL.out]; omega)
          have hnx : Bt.unpK bs ws (k + 1) = Bt.unpK bs ws k ++ [Bt.fieldS bs (Bt.sumK ws k).toNat (ws.getD k 0)] := rfl
          generalize ws.getD k 0 = x at *
          obtain ⟨P, hP⟩ : ∃ P : Nat, Bt.sumK ws k = (P : Int) := ⟨_, (Int.toNat_of_nonneg s3).symm⟩
          obtain ⟨M, rfl⟩ : ∃ M : Nat, x = (M : Int) := ⟨x.toNat, by omega⟩
          obtain ⟨nb, e1, e2, e3⟩ := bytesS_nat (M : Int) (by omega) s2
          have hz := bb.size
          have C1 := BGet_ok P M wr (hb.below (bb.mono hB)) hn (by omega) (by omega) (by omega)
          have C2 := fun w => Bytes_any (M : Int) w (by omega)
          have hlow := Bt.lowF_lt bs P M
          have hlow2 : Bt.lowF bs P M < 18446744073709551616 := Nat.lt_of_lt_of_le hlow (Nat.le_trans (Nat.pow_le_pow_right (by decide) (show M ≤ 64 by omega)) (by decide))
          rw [e1] at C2
          rw [hP] at s4 s3 hnx ⊢
          rw [← s4] at s5
          unfold Bt.fieldS at hnx
          rw [e1, Int.toNat_natCast, Int.toNat_natCast, Int.toNat_natCast] at hnx
          generalize Bt.lowF bs P M = V at *
          have C3 := Put8 V wr hlow2
          have HN := Lib.hid hnx; have HS := Lib.hid s4
          replace C1 := Lib.hid C1; replace C2 := Lib.hid C2; replace C3 := Lib.hid C3
          clear hnx s4 hP hlow e1
          go_wp2_with fail
          refine (C1.out).mono ?_
          rintro e _ ⟨rfl, rfl⟩
          go_wp2_with fail
          refine (C3.out).mono ?_
          rintro e w1 ⟨A2, c2, rfl, o2, b2⟩
          have hcut := fun w => run_cut_full etb A2 8 c2 nb (Nat.le_trans e2 o2.rb.le) .i64 .i64 w
          have ow := o2.ow.cut e2
          rw [lb_take 8 nb V e2] at ow
          replace ow := ow.more hz
          have os1 := os.below b2 (R' := FlW w1 w.heap.size) fun _ _ h => h.below b2
          have d2 := below_step bb b2 (Nat.le_refl _)
          clear o2 C1 C3
          go_wp2_with fail
          refine (C2.out _).mono ?_
          rintro e _ ⟨rfl, rfl⟩
          go_wp2_with fail
          refine (C2.out _).mono ?_
          rintro e _ ⟨rfl, rfl⟩
          go_wp2_with (at_builtin; refine wpList_apps etfl (fun w1 => FlW w1 w.heap.size) rfl (.tmp 49) (.tmp 58) rfl rfl rfl rfl w.heap.size os1 ⟨(M : Int), Oct.lb nb V⟩ ⟨A2, nb, nb, rfl, ow⟩ rfl (field_oneCell _ _ _ _) (by omega) (by omega) d2.size (fun w1 A1 n1 c1 xs h g f cs hf => hf.beside h (by decide) g) ?_; intro A3 c3 w3 os3 b3 g3 _)
          go_roundw
          case rel => exact ⟨k + 1, A3, c3, by omega, by go_num, rfl, by rw [← HS.out], by rw [HN.out]; exact os3, d2.trans b3⟩
          case measure => simp [intOf] <;> omega
        · obtain rfl : k = m := by omega
          go_wp2_with fail
          go_ret2
          exact unp_fine (by rw [HPK.out, HL.out]) (Bt.unpK_length _ _ _) os bb
  · have hx' : (x != 0) = true := by simpa using hx0
    have HX := Lib.hid hx0; clear hx0 hx
    go_enter Try.func25, Try.ntmps25
    go_wp2_with fail
    refine (T.out).mono ?_
    rintro e _ ⟨rfl, rfl⟩
    go_wp2_with fail
    go_ret2
    exact unp_bad (unpackS_bad HP.out HX.out) (Below.refl _ _)
end Go.Proofs.Ytkddillihhjghaa
