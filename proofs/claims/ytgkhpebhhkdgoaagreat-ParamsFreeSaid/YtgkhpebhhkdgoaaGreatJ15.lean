/-
  Texts joined: MapWord, MapFind, CellWords, PrmNum, Cob, PdoPlace, MapMem, MapOne.
  Conditions: none.
-/
import Derived.Test.YtgkhpebhhkdgoaaGreatJ03
import Derived.Test.YtgkhpebhhkdgoaaGreatJ04
import Derived.Test.YtgkhpebhhkdgoaaGreatJ07
import Derived.Test.YtgkhpebhhkdgoaaGreatJ09
import Derived.Test.YtgkhpebhhkdgoaaGreatJ14
/-
  Walks: Split, Join, Size of layer 30, and of its reference.
  Conditions: none.
-/
namespace Go.Proofs.YtgkhpebhhkdgoaaGreat
set_option linter.unusedVariables false
set_option linter.unusedSimpArgs false
open Go.RowKit
theorem and255 (n : Nat) (hn : n < 4294967296) {z : Int} (hz : z = (n : Int)) : bits .and .u32 z 255 = ((n % 256 : Nat) : Int) := by
  subst hz
  have := u32_and_nat n 255 hn (by decide)
  rw [show n &&& 255 = n % 256 from Nat.and_two_pow_sub_one_eq_mod n 8] at this
  exact this
theorem or_words (x y z : Nat) (hx : x ≤ 65535) (hy : y ≤ 255) (hz : z ≤ 255) : bits .or .u32 (bits .or .u32 ((x : Int) * 65536) ((y : Int) * 256)) (z : Int) = 65536 * (x : Int) + 256 * (y : Int) + (z : Int) := by
  have e1 : bits .or .u32 ((x : Int) * 65536) ((y : Int) * 256) = ((65536 * x + 256 * y : Nat) : Int) := by
    have := u32_or_nat (2 ^ 16 * x) (256 * y) (by omega) (by omega)
    rw [← Nat.two_pow_add_eq_or_of_lt (by omega : 256 * y < 2 ^ 16)] at this
    rw [show (x : Int) * 65536 = ((2 ^ 16 * x : Nat) : Int) by omega, show (y : Int) * 256 = ((256 * y : Nat) : Int) by omega, this]
  have e2 := u32_or_nat (2 ^ 8 * (256 * x + y)) z (by omega) (by omega)
  rw [← Nat.two_pow_add_eq_or_of_lt (by omega : z < 2 ^ 8)] at e2
  rw [e1, show ((65536 * x + 256 * y : Nat) : Int) = ((2 ^ 8 * (256 * x + y) : Nat) : Int) by omega, e2]
  omega
theorem MSplit_any (v : Nat) (hv : v < 4294967296) (w : World) : Calls Tryz.prog 125 #[.int .u32 (v : Int)] w fun e w' => e = .returned (.tuple #[.int .i64 (Mp.ix v : Int), .int .i64 (Mp.sb v : Int), .int .i64 (Mp.bt v : Int)]) ∧ w = w' := by
  have e1 : bits .and .u32 ((v : Int) / 256) 255 = ((v / 256 % 256 : Nat) : Int) := and255 (v / 256) (by omega) (by omega)
  have e2 : bits .and .u32 (v : Int) 255 = ((v % 256 : Nat) : Int) := and255 v hv rfl
  have e3 : wrap64 ((v / 256 % 256 : Nat) : Int) = ((v / 256 % 256 : Nat) : Int) := by unfold wrap64; omega
  have e4 : wrap64 ((v % 256 : Nat) : Int) = ((v % 256 : Nat) : Int) := by unfold wrap64; omega
  go_enter Tryz.func125, Tryz.ntmps125
  go_wp2_with fail
  go_ret3
  exact ⟨by simp only [Mp.ix, Mp.sb, Mp.bt]; rfl, rfl⟩
/-- Words that are read. -/
def RW (w : World) (B : Nat) (A : Option Addr) (n c : Nat) (ws : List Nat) : Prop := RV w B 1 A n c (ws.map fun (x : Nat) => Value.int .u32 (x : Int))
section
variable {w w' : World} {B B' n c : Nat} {A : Option Addr} {ws : List Nat}
theorem RW.len (h : RW w B A n c ws) : ws.length = n := by have := RV.len h; simpa using this
theorem RW.lt (h : RW w B A n c ws) : n ≤ 9223372036854775807 := Nat.le_trans (RV.le h) (RV.cap h)
theorem RW.below (h : RW w B A n c ws) (hb : Below B w w') : RW w' B A n c ws := RV.below h hb
theorem RW.more (h : RW w B A n c ws) (hB : B ≤ B') : RW w B' A n c ws := RV.more h hB
theorem RW.at_ (h : RW w B A n c ws) {i : Nat} (hi : i < n) : ∃ b o, A = some ⟨b, o, none⟩ ∧ b < B ∧ w.cell? ⟨b, o + i, none⟩ = some (.int .u32 ((ws.getD i 0 : Nat) : Int)) := by
  have hl := h.len
  obtain ⟨b, o, rfl, hb, hc⟩ := RV.at_ h (by omega)
  exact ⟨b, o, rfl, hb, hc i _ (by simp [List.getElem?_map, List.getD, show i < ws.length by omega])⟩
/-- 'x[:k]' -/
theorem RW.take (h : RW w B A n c ws) {k : Nat} (hk : k ≤ n) : RW w B A k c (ws.take k) :=
  ⟨by rw [List.length_map, List.length_take, h.len]; omega, Nat.le_trans hk (RV.le h), RV.cap h, fun e => ⟨by have := (RV.nil h e).1; omega, (RV.nil h e).2⟩, fun hn => by
    obtain ⟨b, o, rfl, hb, hc⟩ := RV.at_ h (by omega)
    refine ⟨b, o, rfl, hb, fun j u hu => hc j u ?_⟩
    rw [List.map_take, List.getElem?_take] at hu
    split at hu
    · exact hu
    · cases hu⟩
end
theorem size_step {ws : List Nat} {k : Nat} (h : k < ws.length) : Mp.sizeS (ws.take (k + 1)) = Mp.sizeS (ws.take k) + Mp.bt (ws.getD k 0) := by
  unfold Mp.sizeS
  rw [List.take_succ_eq_append_getElem h, List.map_append, List.sum_append, List.getD_eq_getElem?_getD, List.getElem?_eq_getElem h]
  simp
theorem size_le (ws : List Nat) : Mp.sizeS ws ≤ 255 * ws.length := by
  unfold Mp.sizeS
  induction ws with
  | nil => simp
  | cons a l ih =>
    simp only [List.map_cons, List.sum_cons, List.length_cons]
    have : Mp.bt a ≤ 255 := by unfold Mp.bt; omega
    omega
theorem word_lt {ws : List Nat} (h : ∀ x ∈ ws, x < 4294967296) (i : Nat) : ws.getD i 0 < 4294967296 := by
  rw [List.getD_eq_getElem?_getD]
  cases hi : ws[i]? with
  | none => simp
  | some x => exact h _ (List.mem_of_getElem? hi)
set_option maxRecDepth 100000 in
set_option maxHeartbeats 4000000 in
theorem MSize_any {A : Option Addr} {n c B : Nat} {ws : List Nat} (w : World) (h : RW w B A n c ws) (hn : n ≤ 1000000) (hw : ∀ x ∈ ws, x < 4294967296) : Calls Tryz.prog 79 #[.slice A n c] w fun e w' => e = .returned (.int .i64 (Mp.sizeS ws : Int)) ∧ w = w' := by
  have hl := h.len
  go_enter Tryz.func79, Tryz.ntmps79
  go_wp2_with fail
  go_loop [3, 8] (fun v i => ∃ k : Nat, k ≤ n ∧ i = .int .i64 k ∧ v = .int .i64 (Mp.sizeS (ws.take k) : Int)) (fun _ i => n - (intOf i).toNat)
  case atStart => exact ⟨0, by omega, rfl, rfl⟩
  case round =>
    obtain ⟨k, hk, rfl, rfl⟩ := hrel
    by_cases hlt : k < n
    · obtain ⟨b, o, rfl, hbB, q0⟩ := h.at_ hlt
      have hst := size_step (ws := ws) (k := k) (by omega)
      have hsz := size_le (ws.take k)
      have hwv := word_lt hw k
      have hlk : (ws.take k).length = k := by rw [List.length_take]; omega
      rw [hlk] at hsz
      unfold Mp.bt at hst
      have e2 : bits .and .u32 ((ws.getD k 0 : Nat) : Int) 255 = ((ws.getD k 0 % 256 : Nat) : Int) := and255 _ hwv rfl
      generalize ws.getD k 0 = x at *
      generalize Mp.sizeS (ws.take k) = cur at *
      have HST := Lib.hid hst
      have hx : x % 256 < 256 := by omega
      generalize x % 256 = y at *
      clear hst hlk
      go_wp2_with fail
      go_round
      case rel => exact ⟨k + 1, by omega, by go_num, by rw [HST.out]; go_num⟩
      case measure => simp [intOf] <;> omega
    · obtain rfl : k = n := by omega
      go_wp2_with fail
      go_ret
      exact ⟨by rw [List.take_of_length_le (by omega)]; rfl, rfl⟩
end Go.Proofs.YtgkhpebhhkdgoaaGreat
/-
  Walks: Entry of layer 15; find of layer 30.
  Conditions: none.
-/
namespace Go.Proofs.YtgkhpebhhkdgoaaGreat
set_option linter.unusedVariables false
set_option linter.unusedSimpArgs false
open Go.RowKit
set_option maxRecDepth 100000 in
set_option maxHeartbeats 4000000 in
theorem dEntry_any {F : Nat → Prop} {w : World} {g gv lc vc : Nat} {la : Addr} {vA : Option Addr} {xs vs : List Value} {D : Dc.Dic} (k : Nat) (h : DRt 112 w F g gv (some la) lc vA vc xs vs D) (hk : k < D.l.length) (hd : ∀ e ∈ D.l, e.dflt.length ≤ 1000000) : Calls Tryz.prog 49 #[.pointer (some ⟨g, 0, none⟩), .int .i64 (k : Int)] w fun e w' => ∃ A1 n1 c1, e = .returned (.tuple #[enV (D.l.getD k Dc.en0) A1 n1 c1, .bool true]) ∧ OB w' w.heap.size A1 n1 c1 (D.l.getD k Dc.en0).dflt ∧ Below w.heap.size w w' := by
  obtain ⟨b, oo, A, n, c, hA, hbB, hr, hc⟩ := h.entry hk
  have hmem : D.l.getD k Dc.en0 ∈ D.l := by
    rw [List.getD_eq_getElem?_getD, List.getElem?_eq_getElem hk]
    exact List.getElem_mem hk
  have hdl := hd _ hmem
  clear hmem
  have hn := hr.len
  generalize he : D.l.getD k Dc.en0 = e0 at *
  have HE := Lib.hid he
  clear he
  obtain ⟨ix, sb, nm, ty, ac, mp, st, mx, lo, hi, df⟩ := e0
  unfold enV
  dsimp only at hr hdl hn ⊢
  injection hA with hA
  subst hA
  have b0 := alloc_one w (.cells #[.int .i64 0, .int .i64 0, .string ⟨#[]⟩, .int .i64 0, .int .i64 0, .bool false, .bool false, .int .i64 0, .int .i64 0, .int .i64 0, .slice none 0 0] 82)
  have LN := Lib.hid (dLen_any (h.below b0))
  have h2 := h.below b0
  obtain ⟨t0, t1⟩ := h2.two
  have hlc := h.lcap
  have HLC := Lib.hid hlc
  have c0 := (b0.cell (p := ⟨b, oo + k * 11 + 0, none⟩) hbB).trans (hc 0 _ rfl)
  have c1 := (b0.cell (p := ⟨b, oo + k * 11 + 1, none⟩) hbB).trans (hc 1 _ rfl)
  have c2 := (b0.cell (p := ⟨b, oo + k * 11 + 2, none⟩) hbB).trans (hc 2 _ rfl)
  have c3 := (b0.cell (p := ⟨b, oo + k * 11 + 3, none⟩) hbB).trans (hc 3 _ rfl)
  have c4 := (b0.cell (p := ⟨b, oo + k * 11 + 4, none⟩) hbB).trans (hc 4 _ rfl)
  have c5 := (b0.cell (p := ⟨b, oo + k * 11 + 5, none⟩) hbB).trans (hc 5 _ rfl)
  have c6 := (b0.cell (p := ⟨b, oo + k * 11 + 6, none⟩) hbB).trans (hc 6 _ rfl)
  have c7 := (b0.cell (p := ⟨b, oo + k * 11 + 7, none⟩) hbB).trans (hc 7 _ rfl)
  have c8 := (b0.cell (p := ⟨b, oo + k * 11 + 8, none⟩) hbB).trans (hc 8 _ rfl)
  have c9 := (b0.cell (p := ⟨b, oo + k * 11 + 9, none⟩) hbB).trans (hc 9 _ rfl)
  have c10 := (b0.cell (p := ⟨b, oo + k * 11 + 10, none⟩) hbB).trans (hc 10 _ rfl)
  simp only [Nat.add_zero] at c0
  dsimp only at c0 c1 c2 c3 c4 c5 c6 c7 c8 c9 c10
  have HD := held_any ⟨ix, sb, nm, ty, ac, mp, st, mx, lo, hi, df⟩ (w.alloc (.cells #[.int .i64 0, .int .i64 0, .string ⟨#[]⟩, .int .i64 0, .int .i64 0, .bool false, .bool false, .int .i64 0, .int .i64 0, .int .i64 0, .slice none 0 0] 82)) (hr.below b0) (by omega) b0.size
  unfold enV at HD
  dsimp only at HD
  replace HD := Lib.hid HD
  have K2 := Blk.new w 82 #[.int .i64 0, .int .i64 0, .string ⟨#[]⟩, .int .i64 0, .int .i64 0, .bool false, .bool false, .int .i64 0, .int .i64 0, .int .i64 0, .slice none 0 0]
  clear hc hr h h2 hlc
  generalize D.l.length = m at *
  go_enter Tryz.func49, Tryz.ntmps49
  go_wp2_with fail
  refine (LN.out).mono ?_
  rintro e w1 ⟨rfl, rfl⟩
  go_wp2_with fail
  refine (HD.out).mono ?_
  rintro e w1 ⟨A1, c1', rfl, o1, b1⟩
  replace K2 := K2.later b1
  have E2 := K2.eleven
  have d1 := below_step b0 b1 (Nat.le_refl _)
  simp only [World.size_alloc] at o1
  go_wp2_with fail
  have R := (K2.store11 (.int .i64 ix) (.int .i64 sb) (.string (T nm)) (.int .i64 ty) (.int .i64 ac) (.bool mp) (.bool st) (.int .i64 mx) (.int .i64 lo) (.int .i64 hi) (.slice A1 n c1')).eleven.1
  have d2 := below_set11 (g := w.heap.size) d1 (Nat.le_refl _) (.int .i64 ix) (.int .i64 sb) (.string (T nm)) (.int .i64 ty) (.int .i64 ac) (.bool mp) (.bool st) (.int .i64 mx) (.int .i64 lo) (.int .i64 hi) (.slice A1 n c1')
  have o2 := (o1.far11 (g := w.heap.size) (by omega) (.int .i64 ix) (.int .i64 sb) (.string (T nm)) (.int .i64 ty) (.int .i64 ac) (.bool mp) (.bool st) (.int .i64 mx) (.int .i64 lo) (.int .i64 hi) (.slice A1 n c1')).more (base' := w.heap.size) (by omega)
  exact bodyPost_ret (v := .tuple #[.agg #[.int .i64 ix, .int .i64 sb, .string (T nm), .int .i64 ty, .int .i64 ac, .bool mp, .bool st, .int .i64 mx, .int .i64 lo, .int .i64 hi, .slice A1 n c1'], .bool true]) (by simp [results, Tryz.results49, go_sem, R]) rfl ⟨A1, n, c1', rfl, o2, d2⟩
end Go.Proofs.YtgkhpebhhkdgoaaGreat
/-
  Words as a slice's cell, in an argument.
  Conditions: none.
-/
namespace Go.Proofs.YtgkhpebhhkdgoaaGreat
set_option linter.unusedVariables false
set_option linter.unusedSimpArgs false
open Go.ChangeShapes Go.WideShapes Go.ChangeAt Go.RowKit
section
variable {H : Type} {enc : TypeId × Value → H} {w : World} {spare : Nat → Bool} {held : Bool}
set_option maxRecDepth 100000 in
theorem cell_words {fuel : Nat} {v : Value} {x : DataW H × List MemPlace} (h : DataW.trod enc Tryz.prog w 0 spare held fuel 41 [v] = some x) :
    ∃ (A : Option Addr) (n c : Nat) (ws : List Nat), v = .slice A n c ∧ RW w w.heap.size A n c ws ∧ ∀ x ∈ ws, x < 4294967296 := by
  obtain ⟨A, n, c, rfl⟩ := cell_slice Tryz.underlying41 h
  obtain ⟨ws, xs, hl, h1, h2⟩ := open_rows (fun (x : Nat) cs => cs = [.int .u32 (x : Int)] ∧ x < 4294967296) Tryz.underlying41 (show Tryz.prog.cellsOf 36 = 1 by kernel_rfl) (by decide) (fun _ cs _ h => by
    have h3 : cs.length = 1 := (DataW.trod_int Tryz.underlying36 h).elim fun z hz => by rw [hz.1]; rfl
    match cs, h3 with
    | [a], _ =>
      obtain ⟨i, rfl, hw⟩ := cell_int Tryz.underlying36 h
      obtain ⟨b1, b2⟩ := bounds_u32 hw
      obtain ⟨m, rfl⟩ := Int.eq_ofNat_of_zero_le b1
      exact ⟨m, rfl, by omega⟩) h
  have e : xs = ws.map fun (x : Nat) => Value.int .u32 (x : Int) := by
    apply List.ext_getElem?
    intro i
    have hx := h2.len
    rw [List.getElem?_map]
    by_cases hi : i < ws.length
    · have := (h2.2 i _ (List.getElem?_eq_getElem hi)).1
      have e0 : ((xs.drop (i * 1)).take 1)[0]? = xs[i]? := by rw [List.getElem?_take, List.getElem?_drop]; simp
      rw [this] at e0
      simp [List.getElem?_eq_getElem hi, ← e0]
    · rw [List.getElem?_eq_none (by omega), List.getElem?_eq_none (by omega)]; rfl
  subst e
  refine ⟨A, n, c, ws, rfl, h1, fun x hm => ?_⟩
  obtain ⟨i, hi, rfl⟩ := List.getElem_of_mem hm
  exact (h2.2 i _ (List.getElem?_eq_getElem hi)).2
end
theorem RW.lit (w : World) (ws : List Nat) (cs : List Value) (n : Nat) (hc : cs = ws.map fun (x : Nat) => Value.int .u32 (x : Int)) (hn : ws.length = n) (hm : n ≤ 9223372036854775807) : RW (w.alloc (.cells cs.toArray 36)) (w.heap.size + 1) (some ⟨w.heap.size, 0, none⟩) n n ws := by
  subst hc
  exact RV.lit w 36 n (size := 1) (by simp [hn]) hm
end Go.Proofs.YtgkhpebhhkdgoaaGreat
/-
  Walks: Number, number, Words of layer 33.
  Conditions: none.
-/
namespace Go.Proofs.YtgkhpebhhkdgoaaGreat
set_option linter.unusedVariables false
set_option linter.unusedSimpArgs false
open Go.RowKit
theorem Peek_found {D : Dc.Dic} {x y : Int} {k : Nat} (h : Dc.findS D.l x y = some k) : Dc.peekS D x y = some (D.v.getD k []) := by
  unfold Dc.peekS
  rw [h]
  rfl
theorem Num_none {D : Dc.Dic} {x y : Int} (h : Dc.findS D.l x y = none) : Pm.numS D x y = (0, false) := by unfold Pm.numS; rw [h]
theorem Num_some {D : Dc.Dic} {x y : Int} {k : Nat} (h : Dc.findS D.l x y = some k) : Pm.numS D x y = if Pm.isNum (D.l.getD k Dc.en0).type = true then ((Ty.decS (D.l.getD k Dc.en0).type (D.v.getD k [])).1, decide ((Ty.decS (D.l.getD k Dc.en0).type (D.v.getD k [])).2 = 0)) else (0, false) := by unfold Pm.numS; rw [h]
theorem num_decide (z : Int) : (z == 0) = decide (z = 0) := by
  by_cases h : z = 0
  · rw [decide_eq_true h]; simpa using h
  · rw [decide_eq_false h]; simpa using h
/-- The cells of an entry, in a box. -/
theorem Blk.elv {w : World} {g : Nat} {t : TypeId} {c0 c1 c2 c3 c4 c5 c6 c7 c8 c9 c10 : Value} (h : Blk w g t #[c0, c1, c2, c3, c4, c5, c6, c7, c8, c9, c10]) : w.cell? ⟨g, 3, none⟩ = some c3 := h.cell 3
set_option maxRecDepth 100000 in
set_option maxHeartbeats 4000000 in
theorem Number_any {F : Nat → Prop} {w : World} {g gv lc vc : Nat} {la : Addr} {vA : Option Addr} {xs vs : List Value} {D : Dc.Dic} (x y : Int) (h : DRt 112 w F g gv (some la) lc vA vc xs vs D) (hd : ∀ e ∈ D.l, e.dflt.length ≤ 1000000) (hv : ∀ v ∈ D.v, v.length ≤ 1000000) :
    Calls Tryz.prog 25 #[.pointer (some ⟨g, 0, none⟩), .int .i64 x, .int .i64 y] w fun e w' => e = .returned (.tuple #[.int .i64 (Pm.numS D x y).1, .bool (Pm.numS D x y).2]) ∧ Below w.heap.size w w' := by
  have FI := dFind_any x y h
  cases hf : Dc.findS D.l x y with
  | none =>
    rw [findP_none hf] at FI
    have HN := Lib.hid (Num_none hf)
    clear h hf
    replace FI := Lib.hid FI
    go_enter Tryz.func25, Tryz.ntmps25
    go_wp2_with fail
    refine (FI.out).mono ?_
    rintro e w1 ⟨rfl, b1⟩
    go_wp2_with fail
    go_ret2
    rw [HN.out]
    exact ⟨rfl, b1⟩
  | some k =>
    have hk := (Dc.find_some hf).2.1
    rw [findP_some hf] at FI
    have HN := Lib.hid (Num_some hf)
    have EN := fun (w1 : World) (hb : Below w.heap.size w w1) => dEntry_any k (h.below hb) hk hd
    have PK := fun (w1 : World) (hb : Below w.heap.size w w1) => dPeek_any x y (h.below hb) hv
    rw [Peek_found hf] at PK
    unfold PeekP at PK
    dsimp only at PK FI
    generalize D.v.getD k [] = dat at *
    generalize D.l.getD k Dc.en0 = en at *
    obtain ⟨ix, sb, nm, ty, ac, mp, st, mx, lo, hi, df⟩ := en
    unfold enV at EN
    dsimp only at EN HN
    replace FI := Lib.hid FI; replace EN := Lib.hid EN; replace PK := Lib.hid PK
    clear h hf hk
    by_cases hty : ty = 5 ∨ ty = 6 ∨ ty = 7
    · have HN2 : Hid (Pm.numS D x y = ((Ty.decS ty dat).1, decide ((Ty.decS ty dat).2 = 0))) := Lib.hid (by rw [HN.out, if_pos (by unfold Pm.isNum; exact decide_eq_true hty)])
      have H3 : (ty == 5) = true ∨ ((ty == 5) = false ∧ (ty == 6) = true) ∨ ((ty == 5) = false ∧ (ty == 6) = false ∧ (ty == 7) = true) := by
        rcases hty with rfl | rfl | rfl
        · exact .inl rfl
        · exact .inr (.inl ⟨rfl, rfl⟩)
        · exact .inr (.inr ⟨rfl, rfl, rfl⟩)
      clear HN hty
      rcases H3 with e5 | ⟨e5, e6⟩ | ⟨e5, e6, e7⟩
      all_goals
        go_enter Tryz.func25, Tryz.ntmps25
        go_wp2_with fail
        refine (FI.out).mono ?_
        rintro e w1 ⟨rfl, b1⟩
        go_wp2_with fail
        refine (EN.out _ b1).mono ?_
        rintro e w2 ⟨A1, n1, c1, rfl, _, b2⟩
        have d2 := below_step b1 b2 (Nat.le_refl _)
        have b3 := alloc_one w2 (.cells #[.int .i64 ix, .int .i64 sb, .string (T nm), .int .i64 ty, .int .i64 ac, .bool mp, .bool st, .int .i64 mx, .int .i64 lo, .int .i64 hi, .slice A1 n1 c1] 82)
        have K3 := (Blk.new w2 82 #[.int .i64 ix, .int .i64 sb, .string (T nm), .int .i64 ty, .int .i64 ac, .bool mp, .bool st, .int .i64 mx, .int .i64 lo, .int .i64 hi, .slice A1 n1 c1])
        have F3 := K3.elv
        have d3 := below_step d2 b3 (Nat.le_refl _)
        go_wp2_with fail
        refine (PK.out _ d3).mono ?_
        rintro e w4 ⟨A4, c4, rfl, o4, b4⟩
        have d4 := below_step d3 b4 (Nat.le_refl _)
        have F4 := (K3.later b4).elv
        have DE := Lib.hid (Decode_any ty w4 o4.rb (Nat.le_refl _))
        clear F3
        go_wp2_with fail
        refine (DE.out).mono ?_
        rintro e w5 ⟨rfl, b5⟩
        go_wp2_with fail
        go_ret2
        rw [HN2.out]
        exact ⟨rfl, below_step d4 b5 (Nat.le_refl _)⟩
    · have HN2 : Hid (Pm.numS D x y = (0, false)) := Lib.hid (by rw [HN.out, if_neg (by unfold Pm.isNum; rw [decide_eq_false hty]; simp)])
      have e5 : (ty == 5) = false := by simp only [beq_eq_false_iff_ne]; omega
      have e6 : (ty == 6) = false := by simp only [beq_eq_false_iff_ne]; omega
      have e7 : (ty == 7) = false := by simp only [beq_eq_false_iff_ne]; omega
      clear HN hty PK
      go_enter Tryz.func25, Tryz.ntmps25
      go_wp2_with fail
      refine (FI.out).mono ?_
      rintro e w1 ⟨rfl, b1⟩
      go_wp2_with fail
      refine (EN.out _ b1).mono ?_
      rintro e w2 ⟨A1, n1, c1, rfl, _, b2⟩
      have d2 := below_step b1 b2 (Nat.le_refl _)
      have b3 := alloc_one w2 (.cells #[.int .i64 ix, .int .i64 sb, .string (T nm), .int .i64 ty, .int .i64 ac, .bool mp, .bool st, .int .i64 mx, .int .i64 lo, .int .i64 hi, .slice A1 n1 c1] 82)
      have K3 := (Blk.new w2 82 #[.int .i64 ix, .int .i64 sb, .string (T nm), .int .i64 ty, .int .i64 ac, .bool mp, .bool st, .int .i64 mx, .int .i64 lo, .int .i64 hi, .slice A1 n1 c1])
      have F3 := K3.elv
      have d3 := below_step d2 b3 (Nat.le_refl _)
      go_wp2_with fail
      go_ret2
      rw [HN2.out]
      exact ⟨rfl, d3⟩
set_option maxHeartbeats 1000000 in
theorem number_any {F : Nat → Prop} {w : World} {g gv lc vc : Nat} {la : Addr} {vA : Option Addr} {xs vs : List Value} {D : Dc.Dic} (x y o : Int) (h : DRt 112 w F g gv (some la) lc vA vc xs vs D) (hd : ∀ e ∈ D.l, e.dflt.length ≤ 1000000) (hv : ∀ v ∈ D.v, v.length ≤ 1000000) :
    Calls Tryz.prog 41 #[.pointer (some ⟨g, 0, none⟩), .int .i64 x, .int .i64 y, .int .i64 o] w fun e w' => e = .returned (.int .i64 (Pm.numD D x y o)) ∧ Below w.heap.size w w' := by
  have NU := Number_any x y h hd hv
  have hn : Pm.numD D x y o = if (Pm.numS D x y).2 = true then (Pm.numS D x y).1 else o := rfl
  rw [hn]
  clear hn h
  generalize Pm.numS D x y = q at *
  obtain ⟨z, b⟩ := q
  dsimp only at NU ⊢
  replace NU := Lib.hid NU
  cases b
  · simp only [Bool.false_eq_true, if_false]
    go_enter Tryz.func41, Tryz.ntmps41
    go_wp2_with fail
    refine (NU.out).mono ?_
    rintro e w1 ⟨rfl, b1⟩
    go_wp2_with fail
    go_ret
    exact ⟨rfl, b1⟩
  · simp only [if_true]
    go_enter Tryz.func41, Tryz.ntmps41
    go_wp2_with fail
    refine (NU.out).mono ?_
    rintro e w1 ⟨rfl, b1⟩
    go_wp2_with fail
    go_ret
    exact ⟨rfl, b1⟩
end Go.Proofs.YtgkhpebhhkdgoaaGreat
/-
  Walks: Split and Restricted of layer 11, and why a word can not be a PDO's.
  Conditions: none.
-/
namespace Go.Proofs.YtgkhpebhhkdgoaaGreat
set_option linter.unusedVariables false
set_option linter.unusedSimpArgs false
open Go.RowKit
set_option maxRecDepth 100000 in
set_option maxHeartbeats 1000000 in
theorem CSplit_bad (v : Nat) (hv : v < 4294967296) (h : Cob.bad v = true) (w : World) : Calls Tryz.prog 76 #[.int .u32 (v : Int)] w fun e w' => e = .returned (.tuple #[.agg #[.bool false, .bool false, .int .i64 0], .int .i64 4]) ∧ Below w.heap.size w w' := by
  have e1 := Cob.andNot_top v hv
  have h2 : 2048 ≤ v % 1073741824 := by unfold Cob.bad at h; exact of_decide_eq_true h
  generalize v % 1073741824 = r at *
  have b0 := alloc_one w (.cells #[.bool false, .bool false, .int .i64 0] 125)
  have K := Blk.new w 125 #[.bool false, .bool false, .int .i64 0]
  have F := K.three
  clear h
  go_enter Tryz.func76, Tryz.ntmps76
  go_wp2_with fail
  have R := K.three
  exact bodyPost_ret (v := .tuple #[.agg #[.bool false, .bool false, .int .i64 0], .int .i64 4]) (by simp [results, Tryz.results76, go_sem, R]) rfl ⟨rfl, b0⟩
set_option maxRecDepth 100000 in
set_option maxHeartbeats 1000000 in
theorem CSplit_ok (v : Nat) (hv : v < 4294967296) (h : Cob.bad v = false) (w : World) : Calls Tryz.prog 76 #[.int .u32 (v : Int)] w fun e w' => e = .returned (.tuple #[.agg #[.bool (Cob.off v), .bool (Cob.noR v), .int .i64 (Cob.id v : Int)], .int .i64 0]) ∧ Below w.heap.size w w' := by
  have e1 := Cob.andNot_top v hv
  have e2 := Cob.and_off v hv
  have e3 := Cob.and_noR v hv
  have h2 : v % 1073741824 < 2048 := by unfold Cob.bad at h; have := of_decide_eq_false h; omega
  have hid : v % 1073741824 = Cob.id v := by unfold Cob.id; omega
  rw [hid] at e1 h2
  have e4 : wrap64 (Cob.id v : Int) = (Cob.id v : Int) := by unfold wrap64; omega
  generalize Cob.off v = o at *
  generalize Cob.noR v = nr at *
  generalize Cob.id v = i at *
  have b0 := alloc_one w (.cells #[.bool false, .bool false, .int .i64 0] 125)
  have K := Blk.new w 125 #[.bool false, .bool false, .int .i64 0]
  have F := K.three
  clear h hid
  go_enter Tryz.func76, Tryz.ntmps76
  go_wp2_with fail
  have R := (Blk.new w 125 #[.bool o, .bool nr, .int .i64 (i : Int)]).three
  exact bodyPost_ret (v := .tuple #[.agg #[.bool o, .bool nr, .int .i64 (i : Int)], .int .i64 0]) (by simp [results, Tryz.results76, go_sem, R]) rfl ⟨rfl, alloc_one _ _⟩
theorem cbetween_any (n a b : Int) (w : World) : Calls Tryz.prog 110 #[.int .i64 n, .int .i64 a, .int .i64 b] w fun e w' => e = .returned (.bool (decide (a ≤ n ∧ n ≤ b))) ∧ w = w' := by
  by_cases h1 : a ≤ n
  · by_cases h2 : n ≤ b
    · rw [decide_eq_true (And.intro h1 h2)]
      go_enter Tryz.func110, Tryz.ntmps110
      go_wp2_with fail
      go_ret
      exact ⟨rfl, rfl⟩
    · rw [decide_eq_false (fun h : a ≤ n ∧ n ≤ b => h2 h.2)]
      go_enter Tryz.func110, Tryz.ntmps110
      go_wp2_with fail
      go_ret
      exact ⟨rfl, rfl⟩
  · rw [decide_eq_false (fun h : a ≤ n ∧ n ≤ b => h1 h.1)]
    go_enter Tryz.func110, Tryz.ntmps110
    go_wp2_with fail
    go_ret
    exact ⟨rfl, rfl⟩
set_option maxHeartbeats 2000000 in
theorem Restricted_any (n : Int) (w : World) : Calls Tryz.prog 77 #[.int .i64 n] w fun e w' => e = .returned (.bool (Cob.restr n)) ∧ w = w' := by
  have B := fun a b => Lib.hid (fun w => cbetween_any n a b w)
  have B1 := B 257 384
  have B2 := B 1409 1535
  have B3 := B 1537 1663
  have B4 := B 1760 1791
  clear B
  have hr : Cob.restr n = (decide (n < 128) || decide (2047 < n) || decide (257 ≤ n ∧ n ≤ 384) || decide (1409 ≤ n ∧ n ≤ 1535) || decide (1537 ≤ n ∧ n ≤ 1663) || decide (1760 ≤ n ∧ n ≤ 1791) || decide (1792 < n)) := by
    unfold Cob.restr
    rw [Bool.eq_iff_iff]
    simp only [Bool.or_eq_true, decide_eq_true_eq, or_assoc]
  rw [hr]
  clear hr
  generalize hb1 : decide (257 ≤ n ∧ n ≤ 384) = b1 at *
  generalize hb2 : decide (1409 ≤ n ∧ n ≤ 1535) = b2 at *
  generalize hb3 : decide (1537 ≤ n ∧ n ≤ 1663) = b3 at *
  generalize hb4 : decide (1760 ≤ n ∧ n ≤ 1791) = b4 at *
  clear hb1 hb2 hb3 hb4
  by_cases h1 : n < 128
  · simp only [h1, decide_true, Bool.true_or]
    go_enter Tryz.func77, Tryz.ntmps77
    go_wp2_with fail
    go_ret
    exact ⟨rfl, rfl⟩
  · by_cases h2 : 2047 < n
    · simp only [h1, h2, decide_true, Bool.true_or, Bool.or_true]
      go_enter Tryz.func77, Tryz.ntmps77
      go_wp2_with fail
      go_ret
      exact ⟨rfl, rfl⟩
    · simp only [h1, h2, decide_false, Bool.false_or]
      go_enter Tryz.func77, Tryz.ntmps77
      go_wp2_with fail
      refine (B1.out _).mono ?_
      rintro e _ ⟨rfl, rfl⟩
      cases b1
      · go_wp2_with fail
        refine (B2.out _).mono ?_
        rintro e _ ⟨rfl, rfl⟩
        cases b2
        · go_wp2_with fail
          refine (B3.out _).mono ?_
          rintro e _ ⟨rfl, rfl⟩
          cases b3
          · go_wp2_with fail
            refine (B4.out _).mono ?_
            rintro e _ ⟨rfl, rfl⟩
            cases b4
            · by_cases h3 : 1792 < n
              · go_wp2_with fail
                go_ret
                exact ⟨by simp [h3], rfl⟩
              · go_wp2_with fail
                go_ret
                exact ⟨by simp [h3], rfl⟩
            · go_wp2_with fail
              go_ret
              exact ⟨rfl, rfl⟩
          · go_wp2_with fail
            go_ret
            exact ⟨rfl, rfl⟩
        · go_wp2_with fail
          go_ret
          exact ⟨rfl, rfl⟩
      · go_wp2_with fail
        go_ret
        exact ⟨rfl, rfl⟩
end Go.Proofs.YtgkhpebhhkdgoaaGreat
/-
  Walks: why a word can not be a PDO's, of layers 31 and 32.
  Conditions: none.
-/
namespace Go.Proofs.YtgkhpebhhkdgoaaGreat
set_option linter.unusedVariables false
set_option linter.unusedSimpArgs false
open Go.RowKit
set_option maxRecDepth 100000 in
set_option maxHeartbeats 1000000 in
theorem rplace_any (v : Nat) (hv : v < 4294967296) (w : World) : Calls Tryz.prog 42 #[.int .u32 (v : Int)] w fun e w' => e = .returned (.int .u32 (Cob.place v)) ∧ Below w.heap.size w w' := by
  unfold Cob.place
  cases hb : Cob.bad v
  · have SP := Lib.hid (fun w => CSplit_ok v hv hb w)
    have RE := Lib.hid (fun w => Restricted_any (Cob.id v : Int) w)
    clear hb
    simp only [Bool.false_eq_true, if_false]
    generalize Cob.restr (Cob.id v : Int) = rs at *
    generalize (Cob.id v : Int) = i at *
    generalize Cob.noR v = nr at *
    cases ho : Cob.off v
    · rw [ho] at SP
      clear ho
      cases rs
      all_goals
        simp only [Bool.false_eq_true, and_false, if_false, and_self, if_true, true_and]
        go_enter Tryz.func42, Tryz.ntmps42
        go_wp2_with fail
        refine (SP.out _).mono ?_
        rintro e w1 ⟨rfl, b1⟩
        have b2 := alloc_one w1 (.cells #[.bool false, .bool nr, .int .i64 i] 125)
        have K := (Blk.new w1 125 #[.bool false, .bool nr, .int .i64 i]).three
        go_wp2_with fail
        refine (RE.out _).mono ?_
        rintro e _ ⟨rfl, rfl⟩
        go_wp2_with fail
        go_ret
        exact ⟨rfl, below_step b1 b2 (Nat.le_refl _)⟩
    · rw [ho] at SP
      clear ho
      simp only [Bool.true_eq_false, false_and, if_false]
      go_enter Tryz.func42, Tryz.ntmps42
      go_wp2_with fail
      refine (SP.out _).mono ?_
      rintro e w1 ⟨rfl, b1⟩
      have b2 := alloc_one w1 (.cells #[.bool true, .bool nr, .int .i64 i] 125)
      have K := (Blk.new w1 125 #[.bool true, .bool nr, .int .i64 i]).three
      go_wp2_with fail
      go_ret
      exact ⟨rfl, below_step b1 b2 (Nat.le_refl _)⟩
  · have SP := Lib.hid (fun w => CSplit_bad v hv hb w)
    clear hb
    simp only [if_true]
    go_enter Tryz.func42, Tryz.ntmps42
    go_wp2_with fail
    refine (SP.out _).mono ?_
    rintro e w1 ⟨rfl, b1⟩
    have b2 := alloc_one w1 (.cells #[.bool false, .bool false, .int .i64 0] 125)
    have K := (Blk.new w1 125 #[.bool false, .bool false, .int .i64 0]).three
    go_wp2_with fail
    go_ret
    exact ⟨rfl, below_step b1 b2 (Nat.le_refl _)⟩
set_option maxRecDepth 100000 in
set_option maxHeartbeats 1000000 in
theorem tplace_any (v : Nat) (hv : v < 4294967296) (w : World) : Calls Tryz.prog 45 #[.int .u32 (v : Int)] w fun e w' => e = .returned (.int .u32 (Cob.place v)) ∧ Below w.heap.size w w' := by
  unfold Cob.place
  cases hb : Cob.bad v
  · have SP := Lib.hid (fun w => CSplit_ok v hv hb w)
    have RE := Lib.hid (fun w => Restricted_any (Cob.id v : Int) w)
    clear hb
    simp only [Bool.false_eq_true, if_false]
    generalize Cob.restr (Cob.id v : Int) = rs at *
    generalize (Cob.id v : Int) = i at *
    generalize Cob.noR v = nr at *
    cases ho : Cob.off v
    · rw [ho] at SP
      clear ho
      cases rs
      all_goals
        simp only [Bool.false_eq_true, and_false, if_false, and_self, if_true, true_and]
        go_enter Tryz.func45, Tryz.ntmps45
        go_wp2_with fail
        refine (SP.out _).mono ?_
        rintro e w1 ⟨rfl, b1⟩
        have b2 := alloc_one w1 (.cells #[.bool false, .bool nr, .int .i64 i] 125)
        have K := (Blk.new w1 125 #[.bool false, .bool nr, .int .i64 i]).three
        go_wp2_with fail
        refine (RE.out _).mono ?_
        rintro e _ ⟨rfl, rfl⟩
        go_wp2_with fail
        go_ret
        exact ⟨rfl, below_step b1 b2 (Nat.le_refl _)⟩
    · rw [ho] at SP
      clear ho
      simp only [Bool.true_eq_false, false_and, if_false]
      go_enter Tryz.func45, Tryz.ntmps45
      go_wp2_with fail
      refine (SP.out _).mono ?_
      rintro e w1 ⟨rfl, b1⟩
      have b2 := alloc_one w1 (.cells #[.bool true, .bool nr, .int .i64 i] 125)
      have K := (Blk.new w1 125 #[.bool true, .bool nr, .int .i64 i]).three
      go_wp2_with fail
      go_ret
      exact ⟨rfl, below_step b1 b2 (Nat.le_refl _)⟩
  · have SP := Lib.hid (fun w => CSplit_bad v hv hb w)
    clear hb
    simp only [if_true]
    go_enter Tryz.func45, Tryz.ntmps45
    go_wp2_with fail
    refine (SP.out _).mono ?_
    rintro e w1 ⟨rfl, b1⟩
    have b2 := alloc_one w1 (.cells #[.bool false, .bool false, .int .i64 0] 125)
    have K := (Blk.new w1 125 #[.bool false, .bool false, .int .i64 0]).three
    go_wp2_with fail
    go_ret
    exact ⟨rfl, below_step b1 b2 (Nat.le_refl _)⟩
end Go.Proofs.YtgkhpebhhkdgoaaGreat
/-
  A block of twelve cells that is known whole: an object of a mapping.
  Conditions: none.
-/
namespace Go.Proofs.YtgkhpebhhkdgoaaGreat
set_option linter.unusedVariables false
set_option linter.unusedSimpArgs false
open Go.RowKit
theorem Blk.twelve {w : World} {g : Nat} {t : TypeId} {x0 x1 x2 x3 x4 x5 x6 x7 x8 x9 x10 x11 : Value} (h : Blk w g t #[x0, x1, x2, x3, x4, x5, x6, x7, x8, x9, x10, x11]) : (w.cell? ⟨g, 0, none⟩ = some x0 ∧ w.cell? ⟨g, 1, none⟩ = some x1 ∧ w.cell? ⟨g, 2, none⟩ = some x2 ∧ w.cell? ⟨g, 3, none⟩ = some x3 ∧ w.cell? ⟨g, 4, none⟩ = some x4 ∧ w.cell? ⟨g, 5, none⟩ = some x5 ∧ w.cell? ⟨g, 6, none⟩ = some x6 ∧ w.cell? ⟨g, 7, none⟩ = some x7 ∧ w.cell? ⟨g, 8, none⟩ = some x8 ∧ w.cell? ⟨g, 9, none⟩ = some x9 ∧ w.cell? ⟨g, 10, none⟩ = some x10 ∧ w.cell? ⟨g, 11, none⟩ = some x11) ∧ (w.frozen? ⟨g, 0, none⟩ = false ∧ w.frozen? ⟨g, 1, none⟩ = false ∧ w.frozen? ⟨g, 2, none⟩ = false ∧ w.frozen? ⟨g, 3, none⟩ = false ∧ w.frozen? ⟨g, 4, none⟩ = false ∧ w.frozen? ⟨g, 5, none⟩ = false ∧ w.frozen? ⟨g, 6, none⟩ = false ∧ w.frozen? ⟨g, 7, none⟩ = false ∧ w.frozen? ⟨g, 8, none⟩ = false ∧ w.frozen? ⟨g, 9, none⟩ = false ∧ w.frozen? ⟨g, 10, none⟩ = false ∧ w.frozen? ⟨g, 11, none⟩ = false) := ⟨⟨h.cell 0, h.cell 1, h.cell 2, h.cell 3, h.cell 4, h.cell 5, h.cell 6, h.cell 7, h.cell 8, h.cell 9, h.cell 10, h.cell 11⟩, h.frozen 0, h.frozen 1, h.frozen 2, h.frozen 3, h.frozen 4, h.frozen 5, h.frozen 6, h.frozen 7, h.frozen 8, h.frozen 9, h.frozen 10, h.frozen 11⟩
theorem Blk.store12 {w : World} {g : Nat} {t : TypeId} {x0 x1 x2 x3 x4 x5 x6 x7 x8 x9 x10 x11 : Value} (h : Blk w g t #[x0, x1, x2, x3, x4, x5, x6, x7, x8, x9, x10, x11]) (y0 y1 y2 y3 y4 y5 y6 y7 y8 y9 y10 y11 : Value) : Blk (World.setCell (World.setCell (World.setCell (World.setCell (World.setCell (World.setCell (World.setCell (World.setCell (World.setCell (World.setCell (World.setCell (World.setCell w ⟨g, 0, none⟩ y0) ⟨g, 1, none⟩ y1) ⟨g, 2, none⟩ y2) ⟨g, 3, none⟩ y3) ⟨g, 4, none⟩ y4) ⟨g, 5, none⟩ y5) ⟨g, 6, none⟩ y6) ⟨g, 7, none⟩ y7) ⟨g, 8, none⟩ y8) ⟨g, 9, none⟩ y9) ⟨g, 10, none⟩ y10) ⟨g, 11, none⟩ y11) g t #[y0, y1, y2, y3, y4, y5, y6, y7, y8, y9, y10, y11] := by
  have h0 : Blk _ g t #[y0, x1, x2, x3, x4, x5, x6, x7, x8, x9, x10, x11] := h.set_ 0 y0
  have h1 : Blk _ g t #[y0, y1, x2, x3, x4, x5, x6, x7, x8, x9, x10, x11] := h0.set_ 1 y1
  have h2 : Blk _ g t #[y0, y1, y2, x3, x4, x5, x6, x7, x8, x9, x10, x11] := h1.set_ 2 y2
  have h3 : Blk _ g t #[y0, y1, y2, y3, x4, x5, x6, x7, x8, x9, x10, x11] := h2.set_ 3 y3
  have h4 : Blk _ g t #[y0, y1, y2, y3, y4, x5, x6, x7, x8, x9, x10, x11] := h3.set_ 4 y4
  have h5 : Blk _ g t #[y0, y1, y2, y3, y4, y5, x6, x7, x8, x9, x10, x11] := h4.set_ 5 y5
  have h6 : Blk _ g t #[y0, y1, y2, y3, y4, y5, y6, x7, x8, x9, x10, x11] := h5.set_ 6 y6
  have h7 : Blk _ g t #[y0, y1, y2, y3, y4, y5, y6, y7, x8, x9, x10, x11] := h6.set_ 7 y7
  have h8 : Blk _ g t #[y0, y1, y2, y3, y4, y5, y6, y7, y8, x9, x10, x11] := h7.set_ 8 y8
  have h9 : Blk _ g t #[y0, y1, y2, y3, y4, y5, y6, y7, y8, y9, x10, x11] := h8.set_ 9 y9
  have h10 : Blk _ g t #[y0, y1, y2, y3, y4, y5, y6, y7, y8, y9, y10, x11] := h9.set_ 10 y10
  have h11 : Blk _ g t #[y0, y1, y2, y3, y4, y5, y6, y7, y8, y9, y10, y11] := h10.set_ 11 y11
  exact h11
theorem below_set12 {B : Nat} {a w : World} {g : Nat} (h : Below B a w) (hg : B ≤ g) (y0 y1 y2 y3 y4 y5 y6 y7 y8 y9 y10 y11 : Value) : Below B a (World.setCell (World.setCell (World.setCell (World.setCell (World.setCell (World.setCell (World.setCell (World.setCell (World.setCell (World.setCell (World.setCell (World.setCell w ⟨g, 0, none⟩ y0) ⟨g, 1, none⟩ y1) ⟨g, 2, none⟩ y2) ⟨g, 3, none⟩ y3) ⟨g, 4, none⟩ y4) ⟨g, 5, none⟩ y5) ⟨g, 6, none⟩ y6) ⟨g, 7, none⟩ y7) ⟨g, 8, none⟩ y8) ⟨g, 9, none⟩ y9) ⟨g, 10, none⟩ y10) ⟨g, 11, none⟩ y11) := ((((((((((((h.setCell (p := ⟨g, 0, none⟩) hg y0).setCell (p := ⟨g, 1, none⟩) hg y1).setCell (p := ⟨g, 2, none⟩) hg y2).setCell (p := ⟨g, 3, none⟩) hg y3).setCell (p := ⟨g, 4, none⟩) hg y4).setCell (p := ⟨g, 5, none⟩) hg y5).setCell (p := ⟨g, 6, none⟩) hg y6).setCell (p := ⟨g, 7, none⟩) hg y7).setCell (p := ⟨g, 8, none⟩) hg y8).setCell (p := ⟨g, 9, none⟩) hg y9).setCell (p := ⟨g, 10, none⟩) hg y10).setCell (p := ⟨g, 11, none⟩) hg y11)
theorem OB.far12 {w : World} {base g n c : Nat} {A : Option Addr} {l : List UInt8} (h : OB w base A n c l) (hg : g < base) (y0 y1 y2 y3 y4 y5 y6 y7 y8 y9 y10 y11 : Value) : OB (World.setCell (World.setCell (World.setCell (World.setCell (World.setCell (World.setCell (World.setCell (World.setCell (World.setCell (World.setCell (World.setCell (World.setCell w ⟨g, 0, none⟩ y0) ⟨g, 1, none⟩ y1) ⟨g, 2, none⟩ y2) ⟨g, 3, none⟩ y3) ⟨g, 4, none⟩ y4) ⟨g, 5, none⟩ y5) ⟨g, 6, none⟩ y6) ⟨g, 7, none⟩ y7) ⟨g, 8, none⟩ y8) ⟨g, 9, none⟩ y9) ⟨g, 10, none⟩ y10) ⟨g, 11, none⟩ y11) base A n c l := ((((((((((((h.far hg 0 y0).far hg 1 y1).far hg 2 y2).far hg 3 y3).far hg 4 y4).far hg 5 y5).far hg 6 y6).far hg 7 y7).far hg 8 y8).far hg 9 y9).far hg 10 y10).far hg 11 y11)
end Go.Proofs.YtgkhpebhhkdgoaaGreat
/-
  Walks: find of layer 30.
  Conditions: none.
-/
namespace Go.Proofs.YtgkhpebhhkdgoaaGreat
set_option linter.unusedVariables false
set_option linter.unusedSimpArgs false
open Go.RowKit
/-- What a word names, or why there is none. -/
def FindP (D : Dc.Dic) (v : Nat) (w : World) (e : Ending) (w' : World) : Prop := match Dc.findS D.l (Mp.ix v) (Mp.sb v) with
  | none => e = .returned (.tuple #[.agg #[.int .i64 0, .int .i64 0, .string ⟨#[]⟩, .int .i64 0, .int .i64 0, .bool false, .bool false, .int .i64 0, .int .i64 0, .int .i64 0, .slice none 0 0, .int .i64 0], .int .u32 (if Dc.inB D.l (Mp.ix v) = true then 101253137 else 100794368)]) ∧ Below w.heap.size w w'
  | some k => ∃ A n c, e = .returned (.tuple #[.agg #[.int .i64 (D.l.getD k Dc.en0).index, .int .i64 (D.l.getD k Dc.en0).sub, .string (T (D.l.getD k Dc.en0).name), .int .i64 (D.l.getD k Dc.en0).type, .int .i64 (D.l.getD k Dc.en0).access, .bool (D.l.getD k Dc.en0).map, .bool (D.l.getD k Dc.en0).store, .int .i64 (D.l.getD k Dc.en0).max, .int .i64 (D.l.getD k Dc.en0).low, .int .i64 (D.l.getD k Dc.en0).high, .slice A n c, .int .i64 (Mp.bt v : Int)], .int .u32 0]) ∧ OB w' w.heap.size A n c (D.l.getD k Dc.en0).dflt ∧ Below w.heap.size w w'
theorem find_no {D : Dc.Dic} {v : Nat} {w w' : World} {code : Int} (hf : Dc.findS D.l (Mp.ix v) (Mp.sb v) = none) (hc : (if Dc.inB D.l (Mp.ix v) = true then (101253137 : Int) else 100794368) = code) (hb : Below w.heap.size w w') :
    FindP D v w (.returned (.tuple #[.agg #[.int .i64 0, .int .i64 0, .string ⟨#[]⟩, .int .i64 0, .int .i64 0, .bool false, .bool false, .int .i64 0, .int .i64 0, .int .i64 0, .slice none 0 0, .int .i64 0], .int .u32 code])) w' := by
  subst hc
  unfold FindP
  rw [hf]
  exact ⟨rfl, hb⟩
theorem find_yes {D : Dc.Dic} {v k : Nat} {w w' : World} {ix sb ty ac mx lo hi : Int} {nm df : List UInt8} {mp st : Bool} {A : Option Addr} {n c : Nat} (hf : Dc.findS D.l (Mp.ix v) (Mp.sb v) = some k) (he : D.l.getD k Dc.en0 = ⟨ix, sb, nm, ty, ac, mp, st, mx, lo, hi, df⟩) (ho : OB w' w.heap.size A n c df) (hb : Below w.heap.size w w') :
    FindP D v w (.returned (.tuple #[.agg #[.int .i64 ix, .int .i64 sb, .string (T nm), .int .i64 ty, .int .i64 ac, .bool mp, .bool st, .int .i64 mx, .int .i64 lo, .int .i64 hi, .slice A n c, .int .i64 (Mp.bt v : Int)], .int .u32 0])) w' := by
  unfold FindP
  rw [hf]
  dsimp only
  rw [he]
  exact ⟨A, n, c, rfl, ho, hb⟩
set_option maxRecDepth 100000 in
set_option maxHeartbeats 4000000 in
theorem find_any {F : Nat → Prop} {w : World} {g gv lc vc : Nat} {la : Addr} {vA : Option Addr} {xs vs : List Value} {D : Dc.Dic} (v : Nat) (hv : v < 4294967296) (h : DRt 112 w F g gv (some la) lc vA vc xs vs D) (hd : ∀ e ∈ D.l, e.dflt.length ≤ 1000000) : Calls Tryz.prog 111 #[.pointer (some ⟨g, 0, none⟩), .int .u32 (v : Int)] w (FindP D v w) := by
  have SP := Lib.hid (fun w => MSplit_any v hv w)
  have b0 := alloc_one w (.cells #[.int .i64 0, .int .i64 0, .string ⟨#[]⟩, .int .i64 0, .int .i64 0, .bool false, .bool false, .int .i64 0, .int .i64 0, .int .i64 0, .slice none 0 0, .int .i64 0] 152)
  have K0 := Blk.new w 152 #[.int .i64 0, .int .i64 0, .string ⟨#[]⟩, .int .i64 0, .int .i64 0, .bool false, .bool false, .int .i64 0, .int .i64 0, .int .i64 0, .slice none 0 0, .int .i64 0]
  have FD := dFind_any (Mp.ix v : Int) (Mp.sb v : Int) (h.below b0)
  cases hf : Dc.findS D.l (Mp.ix v) (Mp.sb v) with
  | none =>
    rw [findP_none hf] at FD
    dsimp only at FD
    replace FD := Lib.hid FD
    have hm : Dc.mayS D.l false (Mp.ix v) (Mp.sb v) [] = if Dc.inB D.l (Mp.ix v) = true then 101253137 else 100794368 := by unfold Dc.mayS; rw [hf]
    have MY := fun (w1 : World) (hb : Below w.heap.size w w1) => dMay_any (Mp.ix v : Int) (Mp.sb v : Int) (h.below hb) (RB.none_ (w := w1) (B := 0)) (Nat.zero_le _)
    rw [hm] at MY
    generalize hcd : (if Dc.inB D.l (Mp.ix v) = true then (101253137 : Int) else 100794368) = code at *
    have HCD := Lib.hid hcd; have HF := Lib.hid hf
    replace MY := Lib.hid MY
    clear hm hcd hf
    go_enter Tryz.func111, Tryz.ntmps111
    go_wp2_with fail
    refine (SP.out _).mono ?_
    rintro e w1 ⟨rfl, rfl⟩
    go_wp2_with fail
    refine (FD.out).mono ?_
    rintro e w1 ⟨rfl, b1⟩
    have d1 := below_step b0 b1 (Nat.le_refl _)
    go_wp2_with fail
    refine (MY.out _ d1).mono ?_
    rintro e w2 ⟨rfl, b2⟩
    have K2 := (K0.later b1).later b2
    have d2 := below_step d1 b2 (Nat.le_refl _)
    have E2 := K2.twelve
    go_wp2_with fail
    have R := (K2.store12 (.int .i64 0) (.int .i64 0) (.string ⟨#[]⟩) (.int .i64 0) (.int .i64 0) (.bool false) (.bool false) (.int .i64 0) (.int .i64 0) (.int .i64 0) (.slice none 0 0) (.int .i64 0)).twelve.1
    have d3 := below_set12 (g := w.heap.size) d2 (Nat.le_refl _) (.int .i64 0) (.int .i64 0) (.string ⟨#[]⟩) (.int .i64 0) (.int .i64 0) (.bool false) (.bool false) (.int .i64 0) (.int .i64 0) (.int .i64 0) (.slice none 0 0) (.int .i64 0)
    exact bodyPost_ret (v := .tuple #[.agg #[.int .i64 0, .int .i64 0, .string ⟨#[]⟩, .int .i64 0, .int .i64 0, .bool false, .bool false, .int .i64 0, .int .i64 0, .int .i64 0, .slice none 0 0, .int .i64 0], .int .u32 code]) (by simp [results, Tryz.results111, go_sem, R]) rfl (find_no HF.out HCD.out d3)
  | some k =>
    rw [findP_some hf] at FD
    dsimp only at FD
    have hk := (Dc.find_some hf).2.1
    have HF := Lib.hid hf
    have EN := fun (w1 : World) (hb : Below w.heap.size w w1) => dEntry_any k (h.below hb) hk hd
    generalize he : D.l.getD k Dc.en0 = e0 at *
    have HE := Lib.hid he
    obtain ⟨ix, sb, nm, ty, ac, mp, st, mx, lo, hi, df⟩ := e0
    unfold enV at EN
    dsimp only at EN
    replace FD := Lib.hid FD; replace EN := Lib.hid EN
    clear he hf
    go_enter Tryz.func111, Tryz.ntmps111
    go_wp2_with fail
    refine (SP.out _).mono ?_
    rintro e w1 ⟨rfl, rfl⟩
    go_wp2_with fail
    refine (FD.out).mono ?_
    rintro e w1 ⟨rfl, b1⟩
    have d1 := below_step b0 b1 (Nat.le_refl _)
    go_wp2_with fail
    refine (EN.out _ d1).mono ?_
    rintro e w2 ⟨A1, n1, c1, rfl, o2, b2⟩
    have d2 := below_step d1 b2 (Nat.le_refl _)
    have b3 := alloc_one w2 (.cells #[.int .i64 ix, .int .i64 sb, .string (T nm), .int .i64 ty, .int .i64 ac, .bool mp, .bool st, .int .i64 mx, .int .i64 lo, .int .i64 hi, .slice A1 n1 c1] 82)
    have K3 := ((K0.later b1).later b2).later b3
    have d3 := below_step d2 b3 (Nat.le_refl _)
    have o3 := o2.below b3
    have E3 := K3.twelve
    have HS1 := Lib.hid (K0.later b1).lt
    clear b3 b2 b1 o2
    go_wp2_with fail
    have R := (K3.store12 (.int .i64 ix) (.int .i64 sb) (.string (T nm)) (.int .i64 ty) (.int .i64 ac) (.bool mp) (.bool st) (.int .i64 mx) (.int .i64 lo) (.int .i64 hi) (.slice A1 n1 c1) (.int .i64 (Mp.bt v : Int))).twelve.1
    have d4 := below_set12 (g := w.heap.size) d3 (Nat.le_refl _) (.int .i64 ix) (.int .i64 sb) (.string (T nm)) (.int .i64 ty) (.int .i64 ac) (.bool mp) (.bool st) (.int .i64 mx) (.int .i64 lo) (.int .i64 hi) (.slice A1 n1 c1) (.int .i64 (Mp.bt v : Int))
    have o4 := (o3.far12 (g := w.heap.size) HS1.out (.int .i64 ix) (.int .i64 sb) (.string (T nm)) (.int .i64 ty) (.int .i64 ac) (.bool mp) (.bool st) (.int .i64 mx) (.int .i64 lo) (.int .i64 hi) (.slice A1 n1 c1) (.int .i64 (Mp.bt v : Int))).more (base' := w.heap.size) (Nat.le_of_lt HS1.out)
    exact bodyPost_ret (v := .tuple #[.agg #[.int .i64 ix, .int .i64 sb, .string (T nm), .int .i64 ty, .int .i64 ac, .bool mp, .bool st, .int .i64 mx, .int .i64 lo, .int .i64 hi, .slice A1 n1 c1, .int .i64 (Mp.bt v : Int)], .int .u32 0]) (by simp [results, Tryz.results111, go_sem, R]) rfl (find_yes HF.out HE.out o4 d4)
end Go.Proofs.YtgkhpebhhkdgoaaGreat
