/-
  Texts joined: MapCPure, BitMem, Bit, BitGet, BitVal.
  Conditions: none.
-/
import Derived.Test.YtoplpmfdgaabfaaGreatJ04
import Derived.Test.YtoplpmfdgaabfaaGreatJ05
import Derived.Test.YtoplpmfdgaabfaaGreatJ07
import Derived.Test.YtoplpmfdgaabfaaGreatJ09
import Derived.Test.YtoplpmfdgaabfaaGreatJ11
import Derived.Deep.QuietTactic
import Derived.BigQuiet
/-
  Layer 30 as plain functions: the values of a mapping, and the values that bytes say.
  Conditions: none.
-/
namespace Go.Proofs.YtoplpmfdgaabfaaGreat.Mp
set_option linter.unusedVariables false
set_option linter.unusedSimpArgs false
open Ent Dc
/-- The field of a word. -/
def fld (D : Dic) (w : Nat) : Bt.Fld := ⟨(bt w : Int), (peekS D (ix w) (sb w)).getD []⟩
def fldsS (D : Dic) (ws : List Nat) : List Bt.Fld := ws.map (fld D)
def gatherS (D : Dic) (ws : List Nat) : List UInt8 × Int := if checkS D.l false ws ≠ 0 then ([], 4) else Bt.packS (fldsS D ws)
def widthsS (ws : List Nat) : List Int := ws.map fun w => (bt w : Int)
/-- The entry of a word. -/
def entOf (l : List En) (w : Nat) : En := l.getD ((findS l (ix w) (sb w)).getD 0) en0
def takes (l : List En) (ws : List Nat) (fs : List Bt.Fld) (k : Nat) : Bool := decide (valS (entOf l (ws.getD k 0)) (fs.getD k Bt.Fld.zero).data = 0)
def allTake (l : List En) (ws : List Nat) (fs : List Bt.Fld) : Nat → Bool
  | 0 => true
  | k + 1 => allTake l ws fs k && takes l ws fs k
def vlsK (ws : List Nat) (fs : List Bt.Fld) : Nat → List Vl
  | 0 => []
  | k + 1 => vlsK ws fs k ++ [⟨(ix (ws.getD k 0) : Int), (sb (ws.getD k 0) : Int), (fs.getD k Bt.Fld.zero).data⟩]
theorem vlsK_length (ws : List Nat) (fs : List Bt.Fld) : ∀ k, (vlsK ws fs k).length = k
  | 0 => rfl
  | k + 1 => by rw [vlsK, List.length_append, vlsK_length]; rfl
theorem vlsK_at (ws : List Nat) (fs : List Bt.Fld) : ∀ (k i : Nat), i < k → (vlsK ws fs k)[i]? = some ⟨(ix (ws.getD i 0) : Int), (sb (ws.getD i 0) : Int), (fs.getD i Bt.Fld.zero).data⟩
  | 0, _, h => absurd h (by omega)
  | k + 1, i, h => by
    rw [vlsK]
    rcases Nat.lt_or_ge i k with h1 | h1
    · rw [List.getElem?_append_left (by rw [vlsK_length]; exact h1)]
      exact vlsK_at ws fs k i h1
    · obtain rfl : i = k := by omega
      rw [List.getElem?_append_right (by rw [vlsK_length]; omega), vlsK_length]
      simp
def scatterS (l : List En) (ws : List Nat) (b : List UInt8) : List Vl × Int :=
  if checkS l true ws ≠ 0 then ([], 4)
  else if (Bt.unpackS b (widthsS ws)).2 ≠ 0 then ([], (Bt.unpackS b (widthsS ws)).2)
  else if allTake l ws (Bt.unpackS b (widthsS ws)).1 ws.length = true then (vlsK ws (Bt.unpackS b (widthsS ws)).1 ws.length, 0) else ([], 9)
theorem allTake_at {l : List En} {ws : List Nat} {fs : List Bt.Fld} : ∀ {k : Nat}, allTake l ws fs k = true → ∀ i, i < k → takes l ws fs i = true
  | 0, _, _, h => absurd h (by omega)
  | k + 1, h, i, hi => by
    rw [allTake, Bool.and_eq_true] at h
    rcases Nat.lt_or_ge i k with h1 | h1
    · exact allTake_at h.1 i h1
    · obtain rfl : i = k := by omega
      exact h.2
theorem allTake_of {l : List En} {ws : List Nat} {fs : List Bt.Fld} : ∀ {k : Nat}, (∀ i, i < k → takes l ws fs i = true) → allTake l ws fs k = true
  | 0, _ => rfl
  | k + 1, h => by rw [allTake, allTake_of (fun i hi => h i (by omega)), h k (by omega)]; rfl
theorem allTake_no {l : List En} {ws : List Nat} {fs : List Bt.Fld} {n k : Nat} (hk : k < n) (h : takes l ws fs k = false) : allTake l ws fs n = false := by
  cases e : allTake l ws fs n with
  | false => rfl
  | true => rw [allTake_at e k hk] at h; cases h
theorem checkF_each {l : List En} {inn : Bool} {all : List Nat} : ∀ (k i : Nat), checkF l inn all k i = 0 → ∀ j, i ≤ j → j < i + k → oneS l inn (all.getD j 0) = 0 ∧ sizeS (all.take (j + 1)) ≤ 64
  | 0, i, _, j, h1, h2 => by omega
  | k + 1, i, h, j, h1, h2 => by
    rw [checkF] at h
    split at h
    · rename_i ho; exact absurd h ho
    · rename_i ho
      split at h
      · simp at h
      · rename_i hs
        rcases Nat.eq_or_lt_of_le h1 with h3 | h3
        · subst h3
          exact ⟨by simpa using ho, by omega⟩
        · exact checkF_each k (i + 1) h j (by omega) (by omega)
/-- A mapping that can be. -/
theorem check_each {l : List En} {inn : Bool} {ws : List Nat} (h : checkS l inn ws = 0) : ws.length ≤ 8 ∧ ∀ i, i < ws.length → oneS l inn (ws.getD i 0) = 0 ∧ sizeS (ws.take (i + 1)) ≤ 64 := by
  unfold checkS at h
  split at h
  · simp at h
  · exact ⟨by omega, fun i hi => checkF_each ws.length 0 h i (by omega) (by omega)⟩
theorem check_size {l : List En} {inn : Bool} {ws : List Nat} (h : checkS l inn ws = 0) : sizeS ws ≤ 64 := by
  obtain ⟨h1, h2⟩ := check_each h
  rcases Nat.eq_zero_or_pos ws.length with h0 | h0
  · have : ws = [] := List.eq_nil_of_length_eq_zero h0
    subst this
    decide
  · have := (h2 (ws.length - 1) (by omega)).2
    rwa [show ws.length - 1 + 1 = ws.length by omega, List.take_length] at this
/-- A word that can be mapped. -/
theorem one_found {l : List En} {inn : Bool} {w : Nat} (h : oneS l inn w = 0) : ∃ k, findS l (ix w) (sb w) = some k ∧ entOf l w = l.getD k en0 ∧ (l.getD k en0).map = true ∧ ((Ty.kd (l.getD k en0).type).bits : Int) = (bt w : Int) ∧ (if inn = true then writS (l.getD k en0) else readS (l.getD k en0)) = 0 := by
  unfold oneS at h
  unfold entOf
  cases hf : findS l (ix w) (sb w) with
  | none =>
    rw [hf] at h
    dsimp only at h
    split at h <;> simp at h
  | some k =>
    rw [hf] at h
    dsimp only at h
    refine ⟨k, rfl, rfl, ?_⟩
    by_cases hc : (l.getD k en0).map = false ∨ ((Ty.kd (l.getD k en0).type).bits : Int) ≠ (bt w : Int) ∨ (if inn = true then writS (l.getD k en0) else readS (l.getD k en0)) ≠ 0
    · rw [if_pos hc] at h; simp at h
    · refine ⟨?_, ?_, ?_⟩
      · cases hm : (l.getD k en0).map with
        | true => rfl
        | false => exact absurd (Or.inl hm) hc
      · exact Classical.not_not.1 fun hx => hc (Or.inr (Or.inl hx))
      · exact Classical.not_not.1 fun hx => hc (Or.inr (Or.inr hx))
theorem widths_len (ws : List Nat) : (widthsS ws).length = ws.length := by unfold widthsS; rw [List.length_map]
theorem flds_len (D : Dic) (ws : List Nat) : (fldsS D ws).length = ws.length := by unfold fldsS; rw [List.length_map]
theorem widths_take (ws : List Nat) {k : Nat} (hk : k < ws.length) : widthsS (ws.take (k + 1)) = widthsS (ws.take k) ++ [(bt (ws.getD k 0) : Int)] := by
  unfold widthsS
  rw [List.take_succ_eq_append_getElem hk, List.map_append, List.getD_eq_getElem?_getD, List.getElem?_eq_getElem hk]
  rfl
theorem flds_take (D : Dic) (ws : List Nat) {k : Nat} (hk : k < ws.length) : fldsS D (ws.take (k + 1)) = fldsS D (ws.take k) ++ [fld D (ws.getD k 0)] := by
  unfold fldsS
  rw [List.take_succ_eq_append_getElem hk, List.map_append, List.getD_eq_getElem?_getD, List.getElem?_eq_getElem hk]
  rfl
theorem bt_le (w : Nat) : bt w ≤ 255 := by unfold bt; omega
theorem getD_bound {L : List (List UInt8)} (h : ∀ v ∈ L, v.length ≤ 1000000) (k : Nat) : (L.getD k []).length ≤ 1000000 := by
  rw [List.getD_eq_getElem?_getD]
  cases hi : L[k]? with
  | none => simp
  | some x => exact h _ (List.mem_of_getElem? hi)
theorem peek_bound {D : Dic} (h : ∀ v ∈ D.v, v.length ≤ 1000000) (x y : Int) : ((peekS D x y).getD []).length ≤ 1000000 := by
  unfold peekS
  cases findS D.l x y with
  | none => simp
  | some k => exact getD_bound h k
theorem flds_bound {D : Dic} (h : ∀ v ∈ D.v, v.length ≤ 1000000) (ws : List Nat) : ∀ f ∈ fldsS D ws, f.data.length ≤ 1000000 ∧ f.bits ≤ 255 := by
  intro f hf
  unfold fldsS at hf
  obtain ⟨w, _, rfl⟩ := List.mem_map.1 hf
  have := bt_le w
  exact ⟨peek_bound h _ _, by show (bt w : Int) ≤ 255; omega⟩
theorem unpK_small (b : List UInt8) (W : List Int) (hW : ∀ x ∈ W, x ≤ 255) : ∀ k, ∀ f ∈ Bt.unpK b W k, f.data.length ≤ 32
  | 0, f, hf => by simp [Bt.unpK] at hf
  | k + 1, f, hf => by
    rw [Bt.unpK, List.mem_append] at hf
    rcases hf with hf | hf
    · exact unpK_small b W hW k f hf
    · simp only [List.mem_cons, List.not_mem_nil, or_false] at hf
      subst hf
      have hw : W.getD k 0 ≤ 255 := by
        rw [List.getD_eq_getElem?_getD]
        cases hi : W[k]? with
        | none => simp
        | some x => exact hW _ (List.mem_of_getElem? hi)
      unfold Bt.fieldS
      dsimp only
      rw [Oct.lb_length]
      unfold Bt.bytesS
      split <;> omega
theorem unpack_small (b : List UInt8) (W : List Int) (hW : ∀ x ∈ W, x ≤ 255) (i : Nat) : ((Bt.unpackS b W).1.getD i Bt.Fld.zero).data.length ≤ 32 := by
  rw [List.getD_eq_getElem?_getD]
  cases hi : (Bt.unpackS b W).1[i]? with
  | none => simp [Bt.Fld.zero]
  | some f =>
    have hm := List.mem_of_getElem? hi
    unfold Bt.unpackS at hm
    split at hm
    · split at hm
      · simp at hm
      · exact unpK_small b W hW _ f hm
    · simp at hm
/-- The values that bytes say are short. -/
theorem scatter_small (l : List En) (ws : List Nat) (b : List UInt8) : ∀ v ∈ (scatterS l ws b).1, v.data.length ≤ 32 := by
  intro v hv
  unfold scatterS at hv
  split at hv
  · simp at hv
  · split at hv
    · simp at hv
    · split at hv
      · dsimp only at hv
        obtain ⟨i, hi, rfl⟩ := List.getElem_of_mem hv
        have h1 := vlsK_at ws (Bt.unpackS b (widthsS ws)).1 ws.length i (by rwa [vlsK_length] at hi)
        rw [List.getElem?_eq_getElem hi] at h1
        injection h1 with h1
        rw [h1]
        exact unpack_small b (widthsS ws) (fun x hx => by
          unfold widthsS at hx
          obtain ⟨w, _, rfl⟩ := List.mem_map.1 hx
          have := bt_le w
          omega) i
      · simp at hv
end Go.Proofs.YtoplpmfdgaabfaaGreat.Mp
/-
  Fields in memory: of the program and of the reference.
  Conditions: none.
-/
namespace Go.Proofs.YtoplpmfdgaabfaaGreat
set_option linter.unusedVariables false
set_option linter.unusedSimpArgs false
open Go.ChangeShapes Go.WideShapes Go.ChangeAt Go.RowKit
/-- The cells of a field. -/
def FlC (w : World) (B : Nat) (f : Bt.Fld) (cs : List Value) : Prop := ∃ A n c, cs = [.int .i64 f.bits, .slice A n c] ∧ RB w B A n c f.data
theorem FlC.keep {w w' : World} {B : Nat} {f : Bt.Fld} {cs : List Value} (hk : ∀ p : Addr, p.block < B → w'.cell? p = w.cell? p) (h : FlC w B f cs) : FlC w' B f cs := by
  obtain ⟨A, n, c, h1, h2⟩ := h
  exact ⟨A, n, c, h1, h2.keep hk⟩
theorem FlC.below {w w' : World} {B : Nat} {f : Bt.Fld} {cs : List Value} (hb : Below B w w') (h : FlC w B f cs) : FlC w' B f cs := h.keep fun _ hp => hb.cell hp
theorem FlC.more {w : World} {B B' : Nat} {f : Bt.Fld} {cs : List Value} (hB : B ≤ B') (h : FlC w B f cs) : FlC w B' f cs := by
  obtain ⟨A, n, c, h1, h2⟩ := h
  exact ⟨A, n, c, h1, h2.more hB⟩
/-- A slice of fields; the bytes of its elements below B'. -/
def RFl (w : World) (B B' : Nat) (A : Option Addr) (n c : Nat) (fs : List Bt.Fld) : Prop := RS (FlC w B') w B 2 A n c fs
section
variable {w w' : World} {B B' n c : Nat} {A : Option Addr} {fs : List Bt.Fld}
theorem RFl.len (h : RFl w B B' A n c fs) : fs.length = n := RS.len h (by decide)
theorem RFl.lt (h : RFl w B B' A n c fs) : n ≤ 9223372036854775807 := RS.lt h
theorem RFl.below (h : RFl w B B' A n c fs) (hb : Below B w w') (hB : B' ≤ B) : RFl w' B B' A n c fs := RS.below h hb fun _ _ h => h.below (hb.mono hB)
theorem RFl.drew (h : RFl w B B' A n c fs) : RFl w.drew B B' A n c fs := RS.keep h (fun _ _ => rfl) fun _ _ h => FlC.keep (w := w) (fun _ _ => rfl) h
theorem RFl.at_ (h : RFl w B B' A n c fs) {i : Nat} (hi : i < n) : ∃ b o A' n' c', A = some ⟨b, o, none⟩ ∧ b < B ∧ w.cell? ⟨b, o + i * 2, none⟩ = some (.int .i64 (fs.getD i Bt.Fld.zero).bits) ∧
    w.cell? ⟨b, o + i * 2 + 1, none⟩ = some (.slice A' n' c') ∧ RB w B' A' n' c' (fs.getD i Bt.Fld.zero).data := by
  have hl := h.len
  have hf : fs[i]? = some (fs.getD i Bt.Fld.zero) := by simp [List.getD, List.getElem?_eq_getElem (show i < fs.length by omega)]
  obtain ⟨b, o, cs, rfl, hb, ⟨A', n', c', rfl, hr⟩, hc⟩ := RS.at_ h (by decide) hf
  exact ⟨b, o, A', n', c', rfl, hb, hc 0 _ (by decide) rfl, hc 1 _ (by decide) rfl, hr⟩
end
/-- A slice of numbers. -/
def RI (w : World) (B : Nat) (A : Option Addr) (n c : Nat) (ws : List Int) : Prop := RV w B 1 A n c (ws.map (Value.int .i64))
section
variable {w w' : World} {B B' n c : Nat} {A : Option Addr} {ws : List Int}
theorem RI.len (h : RI w B A n c ws) : ws.length = n := by have := RV.len h; simpa using this
theorem RI.lt (h : RI w B A n c ws) : n ≤ 9223372036854775807 := Nat.le_trans (RV.le h) (RV.cap h)
theorem RI.below (h : RI w B A n c ws) (hb : Below B w w') : RI w' B A n c ws := RV.below h hb
theorem RI.at_ (h : RI w B A n c ws) {i : Nat} (hi : i < n) : ∃ b o, A = some ⟨b, o, none⟩ ∧ b < B ∧ w.cell? ⟨b, o + i, none⟩ = some (.int .i64 (ws.getD i 0)) := by
  have hl := h.len
  obtain ⟨b, o, rfl, hb, hc⟩ := RV.at_ h (by omega)
  exact ⟨b, o, rfl, hb, hc i _ (by simp [List.getElem?_map, List.getD, show i < ws.length by omega])⟩
end
theorem etfl : ET Tryz.prog 63 67 2 32 (.agg #[.int .i64 0, .slice none 0 0]) := ⟨Tryz.underlying63, info_parts (by kernel_rfl), rfl, by decide⟩
theorem etrfl : ET Tryz.prog 70 71 2 32 (.agg #[.int .i64 0, .slice none 0 0]) := ⟨Tryz.underlying70, info_parts (by kernel_rfl), rfl, by decide⟩
theorem etint : ET Tryz.prog 73 3 1 8 (.int .i64 0) := ⟨Tryz.underlying73, info_parts (by kernel_rfl), rfl, by decide⟩
theorem field_oneCell (f : Int) (A : Option Addr) (m c : Nat) : ∀ u ∈ ([.int .i64 f, .slice A m c] : List Value), u.oneCell' = true := by
  intro u hu
  simp only [List.mem_cons, List.not_mem_nil, or_false] at hu
  rcases hu with rfl | rfl <;> rfl
/-- The cells of a field whose bytes are the call's own. -/
def FlW (w : World) (base : Nat) (f : Bt.Fld) (cs : List Value) : Prop := ∃ A n c, cs = [.int .i64 f.bits, .slice A n c] ∧ OW w base A n c f.data
theorem FlW.below {w w' : World} {base : Nat} {f : Bt.Fld} {cs : List Value} (hb : Below w.heap.size w w') (h : FlW w base f cs) : FlW w' base f cs := by
  obtain ⟨A, n, c, h1, h2⟩ := h
  exact ⟨A, n, c, h1, h2.below hb⟩
theorem FlW.more {w : World} {base base' : Nat} {f : Bt.Fld} {cs : List Value} (hb : base' ≤ base) (h : FlW w base f cs) : FlW w base' f cs := by
  obtain ⟨A, n, c, h1, h2⟩ := h
  exact ⟨A, n, c, h1, h2.more hb⟩
theorem FlW.flc {w : World} {base : Nat} {f : Bt.Fld} {cs : List Value} (h : FlW w base f cs) : FlC w w.heap.size f cs := by
  obtain ⟨A, n, c, h1, h2⟩ := h
  exact ⟨A, n, c, h1, h2.rb⟩
theorem FlW.beside {w w' : World} {base base' e size m c' : Nat} {A' : Option Addr} {xs : List Value} (h' : OV w base' e size A' m c' xs) (hne : e ≠ 5) (hg : w.grownBy w' (Value.slice A' m c').ownBlock) {f : Bt.Fld} {cs : List Value} (h : FlW w base f cs) : FlW w' base f cs := by
  obtain ⟨A, n, c, h1, h2⟩ := h
  exact ⟨A, n, c, h1, h2.beside h' hne hg⟩
section
variable {H : Type} {enc : TypeId × Value → H} {w : World} {spare : Nat → Bool} {held : Bool}
set_option maxRecDepth 100000 in
theorem cells_field {fuel : Nat} {cs : List Value} {x : DataW H × List MemPlace} (h : DataW.trod enc Tryz.prog w 0 spare held fuel 71 cs = some x) : ∃ f, FlC w w.heap.size f cs ∧ (Lit.int .i64 f.bits).wf = true := by
  have h3 : cs.length = 2 := trod_len Tryz.underlying71 h (by kernel_rfl)
  match cs, h3 with
  | [a, d], _ =>
    obtain ⟨_, _, t0⟩ := trod_one Tryz.underlying71 h 0 3 0 a rfl (by kernel_rfl) rfl
    obtain ⟨_, _, t2⟩ := trod_one Tryz.underlying71 h 1 25 1 d rfl (by kernel_rfl) rfl
    obtain ⟨i, rfl, hw⟩ := cell_int Tryz.underlying3 t0
    obtain ⟨A, n, c, l, rfl, hr⟩ := cell_bytes Tryz.underlying25 Tryz.underlying5 (by kernel_rfl) t2
    exact ⟨⟨i, l⟩, ⟨A, n, c, rfl, hr⟩, hw⟩
set_option maxRecDepth 100000 in
theorem open_rfields {r : Reach} {b0 : Nat} {v : Value} {d : DataW H} {p : List MemPlace} (hv : Value.okWide Tryz.prog w r b0 70 v) (h : DataW.Trod enc Tryz.prog w 0 spare held 70 v d p) :
    ∃ (A : Option Addr) (n c : Nat) (fs : List Bt.Fld), v = .slice A n c ∧ RFl w w.heap.size w.heap.size A n c fs ∧ ∀ f ∈ fs, (Lit.int .i64 f.bits).wf = true := by
  obtain ⟨A, n, c, rfl⟩ := okWide_slice Tryz.underlying70 hv
  obtain ⟨fuel, hf⟩ := h
  obtain ⟨fs, xs, hl, h1, h2⟩ := open_rows (fun f cs => FlC w w.heap.size f cs ∧ (Lit.int .i64 f.bits).wf = true) Tryz.underlying70 (show Tryz.prog.cellsOf 71 = 2 by kernel_rfl) (by decide) (fun _ _ _ h => cells_field h) hf
  refine ⟨A, n, c, fs, rfl, ⟨xs, h1, h2.imp fun _ _ h => h.1⟩, fun f hm => ?_⟩
  obtain ⟨i, hi, rfl⟩ := List.getElem_of_mem hm
  exact (h2.2 i _ (List.getElem?_eq_getElem hi)).2
set_option maxRecDepth 100000 in
theorem open_ints {r : Reach} {b0 : Nat} {v : Value} {d : DataW H} {p : List MemPlace} (hv : Value.okWide Tryz.prog w r b0 73 v) (h : DataW.Trod enc Tryz.prog w 0 spare held 73 v d p) :
    ∃ (A : Option Addr) (n c : Nat) (ws : List Int), v = .slice A n c ∧ RI w w.heap.size A n c ws ∧ ∀ x ∈ ws, (Lit.int .i64 x).wf = true := by
  obtain ⟨A, n, c, rfl⟩ := okWide_slice Tryz.underlying73 hv
  obtain ⟨fuel, hf⟩ := h
  obtain ⟨ws, xs, hl, h1, h2⟩ := open_rows (fun (x : Int) cs => cs = [.int .i64 x] ∧ (Lit.int .i64 x).wf = true) Tryz.underlying73 (show Tryz.prog.cellsOf 3 = 1 by kernel_rfl) (by decide) (fun _ cs _ h => by
    have h3 : cs.length = 1 := (DataW.trod_int Tryz.underlying3 h).elim fun z hz => by rw [hz.1]; rfl
    match cs, h3 with
    | [a], _ =>
      obtain ⟨i, rfl, hw⟩ := cell_int Tryz.underlying3 h
      exact ⟨i, rfl, hw⟩) hf
  have e : xs = ws.map (Value.int .i64) := by
    apply List.ext_getElem?
    intro i
    have hx := h2.len
    rw [List.getElem?_map]
    by_cases hi : i < ws.length
    · have := (h2.2 i _ (List.getElem?_eq_getElem hi)).1
      have e0 : ((xs.drop (i * 1)).take 1)[0]? = xs[i]? := by rw [List.getElem?_take, List.getElem?_drop]; simp
      rw [this] at e0
      simp [List.getElem?_eq_getElem hi, ← e0]
    · rw [List.getElem?_eq_none (by omega), List.getElem?_eq_none (by omega)]; rfl
  subst e
  refine ⟨A, n, c, ws, rfl, h1, fun x hm => ?_⟩
  obtain ⟨i, hi, rfl⟩ := List.getElem_of_mem hm
  exact (h2.2 i _ (List.getElem?_eq_getElem hi)).2
end
end Go.Proofs.YtoplpmfdgaabfaaGreat
/-
  Walks: bits.room, wide, Bytes; the reference's Bytes, bit.
  Conditions: none.
-/
namespace Go.Proofs.YtoplpmfdgaabfaaGreat
set_option linter.unusedVariables false
set_option linter.unusedSimpArgs false
open Go.RowKit
theorem ret_bool' {a b : Bool} (h : a = b) : Ending.returned (.bool a) = .returned (.bool b) := by rw [h]
theorem room_any {A : Option Addr} {n c : Nat} (p m : Int) (w : World) (hn : n ≤ 1000000) :
    Calls Tryz.prog 92 #[.slice A n c, .int .i64 p, .int .i64 m] w fun e w' => e = .returned (.int .i64 (Bt.roomS n p m)) ∧ w = w' := by
  unfold Bt.roomS
  by_cases h : m < 1 ∨ 64 < m ∨ p < 0
  · rw [if_pos h]
    rcases (show m < 1 ∨ (1 ≤ m ∧ 64 < m) ∨ (1 ≤ m ∧ m ≤ 64 ∧ p < 0) by omega) with h | ⟨h1, h2⟩ | ⟨h1, h2, h3⟩
    all_goals
      go_enter Tryz.func92, Tryz.ntmps92
      go_wp2_with fail
      go_ret
      exact ⟨rfl, rfl⟩
  · rw [if_neg h]
    have h1 : 1 ≤ m := by omega
    have h2 : m ≤ 64 := by omega
    have h3 : 0 ≤ p := by omega
    clear h
    by_cases h : 8 * (n : Int) < p
    · rw [if_pos (.inl h)]
      go_enter Tryz.func92, Tryz.ntmps92
      go_wp2_with fail
      go_ret
      exact ⟨rfl, rfl⟩
    · by_cases h' : 8 * (n : Int) - p < m
      · rw [if_pos (.inr h')]
        go_enter Tryz.func92, Tryz.ntmps92
        go_wp2_with fail
        go_ret
        exact ⟨rfl, rfl⟩
      · rw [if_neg (by omega)]
        go_enter Tryz.func92, Tryz.ntmps92
        go_wp2_with fail
        go_ret
        exact ⟨rfl, rfl⟩
theorem Bytes_any (m : Int) (w : World) (hm : m ≤ 9223372036854775807) : Calls Tryz.prog 54 #[.int .i64 m] w fun e w' => e = .returned (.int .i64 (Bt.bytesS m)) ∧ w = w' := by
  unfold Bt.bytesS
  by_cases h : m < 1
  · rw [if_pos h]
    go_enter Tryz.func54, Tryz.ntmps54
    go_wp2_with fail
    go_ret
    exact ⟨rfl, rfl⟩
  · rw [if_neg h]
    go_enter Tryz.func54, Tryz.ntmps54
    go_wp2_with fail
    go_ret
    exact ⟨rfl, rfl⟩
theorem RBytes_any (m : Int) (w : World) (hm : m ≤ 9223372036854775807) : Calls Tryz.prog 61 #[.int .i64 m] w fun e w' => e = .returned (.int .i64 (Bt.bytesS m)) ∧ w = w' := by
  unfold Bt.bytesS
  by_cases h : m < 1
  · rw [if_pos h]
    go_enter Tryz.func61, Tryz.ntmps61
    go_wp2_with fail
    go_ret
    exact ⟨rfl, rfl⟩
  · rw [if_neg h]
    by_cases h0 : m % 8 = 0
    · have ht : (m.tmod 8 == 0) = true := by rw [Int.tmod_eq_emod_of_nonneg (by omega), h0]; rfl
      go_enter Tryz.func61, Tryz.ntmps61
      go_wp2_with fail
      go_ret
      exact ⟨ret_int (by omega), rfl⟩
    · have ht : (m.tmod 8 == 0) = false := by rw [Int.tmod_eq_emod_of_nonneg (by omega), beq_eq_false_iff_ne]; exact h0
      go_enter Tryz.func61, Tryz.ntmps61
      go_wp2_with fail
      go_ret
      exact ⟨ret_int (by omega), rfl⟩
theorem wide_any (v : Nat) (m : Int) (w : World) (h1 : 1 ≤ m) (h2 : m ≤ 64) :
    Calls Tryz.prog 91 #[.int .u64 (v : Int), .int .i64 m] w fun e w' => e = .returned (.bool (Bt.wideS v m)) ∧ w = w' := by
  unfold Bt.wideS
  by_cases h : m < 64
  · obtain ⟨k, rfl⟩ : ∃ k : Nat, m = (k : Int) := ⟨m.toNat, by omega⟩
    go_enter Tryz.func91, Tryz.ntmps91
    go_wp2_with fail
    go_ret
    refine ⟨ret_bool' ?_, rfl⟩
    have e : (v : Int) / 2 ^ k = ((v / 2 ^ k : Nat) : Int) := by simp
    simp only [e, h, decide_true, Bool.true_and, Int.toNat_natCast]
    rw [Bool.eq_iff_iff]
    simp only [bne_iff_ne, ne_eq]
    omega
  · go_enter Tryz.func91, Tryz.ntmps91
    go_wp2_with fail
    go_ret
    exact ⟨ret_bool' (by rw [show decide (m < 64) = false by simpa using h]; rfl), rfl⟩
set_option maxHeartbeats 400000 in
theorem bit_any {A : Option Addr} {n c B : Nat} {l : List UInt8} (i : Nat) (w : World) (hb : RB w B A n c l) (hi : i / 8 < n) (hi2 : i ≤ 9223372036854775807) :
    Calls Tryz.prog 98 #[.slice A n c, .int .i64 (i : Int)] w fun e w' => e = .returned (.int .u64 (Bt.bt l i : Int)) ∧ w = w' := by
  have hn := hb.lt
  obtain ⟨b, o, rfl, hbB, hc⟩ := hb.at_ (by omega)
  have hcell := hc (i / 8) hi
  have hx := (l.getD (i / 8) 0).toNat_lt
  have hbt : Bt.bt l i = (l.getD (i / 8) 0).toNat / 2 ^ (i % 8) % 2 := rfl
  generalize (l.getD (i / 8) 0).toNat = x at *
  have HB := Lib.hid hbt; clear hbt hc
  have hw : wrap64 (x : Int) = x := by unfold wrap64; omega
  go_enter Tryz.func98, Tryz.ntmps98
  go_wp2_with fail
  go_loopw [5, 6] (fun v u wr => ∃ k : Nat, k ≤ i % 8 ∧ u = .int .i64 k ∧ v = .int .i64 ((x / 2 ^ k : Nat) : Int) ∧ w = wr) (fun _ u _ => i % 8 - (intOf u).toNat)
  case atStart => exact ⟨0, by omega, rfl, by simp, rfl⟩
  case round =>
    obtain ⟨k, hk, rfl, rfl, rfl⟩ := hrel
    have hle : x / 2 ^ k ≤ x := Nat.div_le_self _ _
    have hp : x / 2 ^ k / 2 = x / 2 ^ (k + 1) := by rw [Nat.div_div_eq_div_mul, Nat.pow_succ]
    have HP := Lib.hid hp; clear hp
    by_cases hlt : k < i % 8
    · generalize x / 2 ^ k = y at *
      go_wp2_with fail
      go_roundw
      case rel => exact ⟨k + 1, by omega, by go_num, by rw [← HP.out]; go_num, by trivial⟩
      case measure => simp [intOf] <;> omega
    · obtain rfl : k = i % 8 := by omega
      generalize hy : x / 2 ^ (i % 8) = y at *
      have HY := Lib.hid hy; clear hy
      go_wp2_with fail
      go_ret
      exact ⟨ret_int (by rw [HB.out]; go_num), rfl⟩
end Go.Proofs.YtoplpmfdgaabfaaGreat
/-
  Walks: bits.Get, the reference's Get.
  Conditions: none.
-/
namespace Go.Proofs.YtoplpmfdgaabfaaGreat
set_option linter.unusedVariables false
set_option linter.unusedSimpArgs false
open Go.RowKit
theorem or_bit (x y j k : Nat) (hx : x < 2 ^ 8) (hy : y < 2 ^ k) (hk : k < 64) :
    bits .or .u64 (y : Int) (IntKind.u64.wrap (IntKind.u64.wrap (bits .and .u8 ((x : Int) / 2 ^ j) 1) * 2 ^ k)) = ((y + x / 2 ^ j % 2 * 2 ^ k : Nat) : Int) := by
  have e1 : (x : Int) / 2 ^ j = ((x / 2 ^ j : Nat) : Int) := by simp
  have hle : x / 2 ^ j ≤ x := Nat.div_le_self _ _
  have e2 : bits .and .u8 ((x : Int) / 2 ^ j) 1 = ((x / 2 ^ j % 2 : Nat) : Int) := by
    rw [e1]
    have := u8_and_nat (x / 2 ^ j) 1 (by omega) (by omega)
    rw [Nat.and_one_is_mod] at this
    exact this
  have hb : x / 2 ^ j % 2 < 2 := Nat.mod_lt _ (by decide)
  rw [e2]
  generalize x / 2 ^ j % 2 = z at *
  have hpk : 2 ^ k ≤ 2 ^ 63 := Nat.pow_le_pow_right (by decide) (by omega)
  have hzk : z * 2 ^ k ≤ 1 * 2 ^ k := Nat.mul_le_mul_right _ (by omega)
  have e3 : IntKind.u64.wrap (IntKind.u64.wrap ((z : Nat) : Int) * 2 ^ k) = ((z * 2 ^ k : Nat) : Int) := by
    rw [IntKind.wrap_u64, IntKind.wrap_u64, Int.emod_eq_of_lt (a := (z : Int)) (by omega) (by omega), show (z : Int) * 2 ^ k = ((z * 2 ^ k : Nat) : Int) by simp]
    omega
  rw [e3, u64_or_nat _ _ (by omega) (by omega)]
  congr 1
  rw [Nat.or_comm, Nat.mul_comm z, ← Nat.two_pow_add_eq_or_of_lt hy]
  omega
set_option maxHeartbeats 1000000 in
theorem BGet_bad {A : Option Addr} {n c : Nat} (p m : Int) (w : World) (hn : n ≤ 1000000) (h : Bt.roomS n p m ≠ 0) :
    Calls Tryz.prog 65 #[.slice A n c, .int .i64 p, .int .i64 m] w fun e w' => e = .returned (.tuple #[.int .u64 0, .int .i64 (Bt.roomS n p m)]) ∧ w = w' := by
  have C := Lib.hid (room_any (A := A) (c := c) p m w hn)
  have hz : (Bt.roomS n p m != 0) = true := by simpa using h
  generalize Bt.roomS n p m = z at *
  clear h
  go_enter Tryz.func65, Tryz.ntmps65
  go_wp2_with fail
  refine (C.out).mono ?_
  rintro e _ ⟨rfl, rfl⟩
  go_wp2_with fail
  go_ret2
  exact ⟨rfl, rfl⟩
set_option maxHeartbeats 1000000 in
theorem BGet_ok {A : Option Addr} {n c B : Nat} {l : List UInt8} (p m : Nat) (w : World) (hb : RB w B A n c l) (hn : n ≤ 1000000) (h1 : 1 ≤ m) (h2 : m ≤ 64) (h3 : p + m ≤ 8 * n) :
    Calls Tryz.prog 65 #[.slice A n c, .int .i64 (p : Int), .int .i64 (m : Int)] w fun e w' => e = .returned (.tuple #[.int .u64 (Bt.lowF l p m : Int), .int .i64 0]) ∧ w = w' := by
  have C := room_any (A := A) (c := c) (p : Int) (m : Int) w hn
  rw [show Bt.roomS n p m = 0 by unfold Bt.roomS; rw [if_neg (by omega), if_neg (by omega)]] at C
  replace C := Lib.hid C
  go_enter Tryz.func65, Tryz.ntmps65
  go_wp2_with fail
  refine (C.out).mono ?_
  rintro e _ ⟨rfl, rfl⟩
  go_wp2_with fail
  go_loopw [9, 20] (fun v u wr => ∃ k : Nat, k ≤ m ∧ u = .int .i64 k ∧ v = .int .u64 (Bt.lowF l p k : Int) ∧ w = wr) (fun _ u _ => m - (intOf u).toNat)
  case atStart => exact ⟨0, by omega, rfl, rfl, rfl⟩
  case round =>
    obtain ⟨k, hk, rfl, rfl, rfl⟩ := hrel
    by_cases hlt : k < m
    · obtain ⟨b, o, rfl, hbB, hc⟩ := hb.at_ (show 0 < n by omega)
      have hcell := hc ((p + k) / 8) (by omega)
      have hx := (l.getD ((p + k) / 8) 0).toNat_lt
      have hbt : Bt.bt l (p + k) = (l.getD ((p + k) / 8) 0).toNat / 2 ^ ((p + k) % 8) % 2 := rfl
      have hlo := Bt.lowF_lt l p k
      have hnx : Bt.lowF l p (k + 1) = Bt.lowF l p k + Bt.bt l (p + k) * 2 ^ k := rfl
      generalize (l.getD ((p + k) / 8) 0).toNat = x at *
      generalize Bt.lowF l p k = y at *
      have HB := Lib.hid hbt; have HN := Lib.hid hnx; have HL := Lib.hid hlo; clear hbt hnx hlo hc
      go_wp2_with fail
      go_roundw
      case rel =>
        refine ⟨k + 1, by omega, by go_num, ?_, by trivial⟩
        rw [HN.out, HB.out]
        exact congrArg _ (or_bit x y ((p + k) % 8) k hx HL.out (by omega))
      case measure => simp [intOf] <;> omega
    · obtain rfl : k = m := by omega
      go_wp2_with fail
      go_ret2
      exact ⟨rfl, rfl⟩
set_option maxHeartbeats 1000000 in
theorem RBGet_bad {A : Option Addr} {n c : Nat} (p m : Int) (w : World) (hn : n ≤ 1000000) (h : Bt.roomS n p m ≠ 0) :
    Calls Tryz.prog 72 #[.slice A n c, .int .i64 p, .int .i64 m] w fun e w' => e = .returned (.tuple #[.int .u64 0, .int .i64 (Bt.roomS n p m)]) ∧ w = w' := by
  unfold Bt.roomS at h ⊢
  by_cases h0 : m < 1 ∨ 64 < m ∨ p < 0
  · rw [if_pos h0]
    clear h
    rcases (show m < 1 ∨ (1 ≤ m ∧ 64 < m) ∨ (1 ≤ m ∧ m ≤ 64 ∧ p < 0) by omega) with h | ⟨h1, h2⟩ | ⟨h1, h2, h3⟩
    all_goals
      clear h0
      go_enter Tryz.func72, Tryz.ntmps72
      go_wp2_with fail
      go_ret2
      exact ⟨rfl, rfl⟩
  · rw [if_neg h0] at h ⊢
    have h1 : 1 ≤ m := by omega
    have h2 : m ≤ 64 := by omega
    have h3 : 0 ≤ p := by omega
    clear h0
    by_cases h4 : 8 * (n : Int) < p
    · rw [if_pos (.inl h4)]
      clear h
      go_enter Tryz.func72, Tryz.ntmps72
      go_wp2_with fail
      go_ret2
      exact ⟨rfl, rfl⟩
    · by_cases h' : 8 * (n : Int) - p < m
      · rw [if_pos (.inr h')]
        clear h
        go_enter Tryz.func72, Tryz.ntmps72
        go_wp2_with fail
        go_ret2
        exact ⟨rfl, rfl⟩
      · exact absurd (if_neg (by omega)) h
set_option maxHeartbeats 1000000 in
theorem RBGet_ok {A : Option Addr} {n c B : Nat} {l : List UInt8} (p m : Nat) (w : World) (hb : RB w B A n c l) (hn : n ≤ 1000000) (h1 : 1 ≤ m) (h2 : m ≤ 64) (h3 : p + m ≤ 8 * n) :
    Calls Tryz.prog 72 #[.slice A n c, .int .i64 (p : Int), .int .i64 (m : Int)] w fun e w' => e = .returned (.tuple #[.int .u64 (Bt.lowF l p m : Int), .int .i64 0]) ∧ w = w' := by
  have hU := Bt.upF_all l p m
  have HU := Lib.hid hU; clear hU
  go_enter Tryz.func72, Tryz.ntmps72
  go_wp2_with fail
  go_loopw [8, 9] (fun v u wr => ∃ k : Nat, k ≤ m ∧ u = .int .i64 ((m : Int) - 1 - k) ∧ v = .int .u64 (Bt.upF l p m k : Int) ∧ w = wr) (fun _ u _ => (intOf u + 1).toNat)
  case atStart => exact ⟨0, by omega, by go_num, rfl, rfl⟩
  case round =>
    obtain ⟨k, hk, rfl, rfl, rfl⟩ := hrel
    by_cases hlt : k < m
    · have hlo := Bt.upF_lt l p m k
      have hpk : 2 ^ k ≤ 2 ^ 63 := Nat.pow_le_pow_right (by decide) (by omega)
      have hb2 := Bt.bt_lt l (p + (m - 1 - k))
      have hC := bit_any (p + (m - 1 - k)) w hb (by omega) (by omega)
      have hnx : Bt.upF l p m (k + 1) = 2 * Bt.upF l p m k + Bt.bt l (p + (m - 1 - k)) := rfl
      rw [show ((p + (m - 1 - k) : Nat) : Int) = (p : Int) + ((m : Int) - 1 - k) by omega] at hC
      have hy : Bt.upF l p m k < 2 ^ 63 := by omega
      generalize Bt.upF l p m k = y at *
      generalize Bt.bt l (p + (m - 1 - k)) = z at *
      have C := Lib.hid hC; have HN := Lib.hid hnx; clear hC hnx hlo hpk
      go_wp2_with fail
      refine (C.out).mono ?_
      rintro e _ ⟨rfl, rfl⟩
      go_wp2_with fail
      go_roundw
      case rel => exact ⟨k + 1, by omega, by go_num, by rw [HN.out]; go_num, by trivial⟩
      case measure => simp [intOf] <;> omega
    · obtain rfl : k = m := by omega
      go_wp2_with fail
      go_ret2
      exact ⟨by rw [HU.out]; rfl, rfl⟩
end Go.Proofs.YtoplpmfdgaabfaaGreat
/-
  Walks: bits.value, the reference's number; the closures of Pack and Unpack.
  Conditions: none.
-/
namespace Go.Proofs.YtoplpmfdgaabfaaGreat
set_option linter.unusedVariables false
set_option linter.unusedSimpArgs false
open Go.RowKit
theorem cut_all (l : List UInt8) : Oct.cut l 0 l.length = l := by simp [Oct.cut]
set_option maxHeartbeats 1000000 in
theorem value_any {A : Option Addr} {n c B : Nat} {l : List UInt8} (m : Int) (w : World) (hb : RB w B A n c l) (hn : n ≤ 1000000) (hB : B ≤ w.heap.size) (hm : m ≤ 9223372036854775807) :
    Calls Tryz.prog 53 #[.agg #[.int .i64 m, .slice A n c]] w fun e w' => e = .returned (.tuple #[.int .u64 ((Bt.valS ⟨m, l⟩).1 : Int), .bool (Bt.valS ⟨m, l⟩).2]) ∧ Below w.heap.size w w' := by
  have hl := hb.len
  have C := Lib.hid (fun w => Bytes_any m w hm)
  have b1 := alloc_one w (.cells #[.int .i64 m, .slice A n c] 67)
  have F := (Blk.new w 67 #[.int .i64 m, .slice A n c]).two
  by_cases hf : 1 ≤ m ∧ m ≤ 64 ∧ (n : Int) = Bt.bytesS m
  · obtain ⟨h1, h2, h3⟩ := hf
    have hp := Bt.bytesS_pos h1 h2
    have hv : Bt.valS ⟨m, l⟩ = (Oct.le l, !Bt.wideS (Oct.le l) m) := by
      unfold Bt.valS Bt.fits
      rw [if_pos (decide_eq_true ⟨h1, h2, by dsimp only; rw [hl, h3]⟩)]
    have C2 := Get_ok n 0 _ (hb.below (b1.mono hB)) (by omega) (by omega) (by omega)
    have e1 : Oct.cut l 0 n = l := by rw [← hl, cut_all]
    rw [e1, show ((0 : Nat) : Int) = 0 from rfl] at C2
    have C3 := fun w => wide_any (Oct.le l) m w h1 h2
    rw [hv]
    generalize Oct.le l = v at *
    generalize Bt.wideS v m = x at *
    replace C2 := Lib.hid C2
    replace C3 := Lib.hid C3
    rw [← h3] at C
    have hn1 : 1 ≤ n := by omega
    have hn2 : n ≤ 8 := by omega
    clear hv hl hb e1 hp h3
    go_enter Tryz.func53, Tryz.ntmps53
    go_wp2_with fail
    refine (C.out _).mono ?_
    rintro e _ ⟨rfl, rfl⟩
    go_wp2_with fail
    refine (C2.out).mono ?_
    rintro e _ ⟨rfl, rfl⟩
    go_wp2_with fail
    refine (C3.out _).mono ?_
    rintro e _ ⟨rfl, rfl⟩
    go_wp2_with fail
    go_ret2
    exact ⟨rfl, b1⟩
  · have hv : Bt.valS ⟨m, l⟩ = (0, false) := by
      unfold Bt.valS Bt.fits
      rw [if_neg (by rw [decide_eq_true_iff]; dsimp only; rw [hl]; exact hf)]
    rw [hv]
    clear hv
    rcases (show m < 1 ∨ (1 ≤ m ∧ 64 < m) ∨ (1 ≤ m ∧ m ≤ 64 ∧ ¬ (n : Int) = Bt.bytesS m) by omega) with h | ⟨h1, h2⟩ | ⟨h1, h2, h3⟩
    all_goals
      try have h4 : ((n : Int) != Bt.bytesS m) = true := by rw [bne_iff_ne]; exact h3
      clear hf hl hb
      generalize Bt.bytesS m = z at *
      try clear h3
      go_enter Tryz.func53, Tryz.ntmps53
      go_wp2_with fail
      refine (C.out _).mono ?_
      rintro e _ ⟨rfl, rfl⟩
      go_wp2_with fail
      go_ret2
      exact ⟨rfl, b1⟩
/-- The bytes of a number from the highest one down: k of them. -/
theorem le_down (l : List UInt8) (k : Nat) (h : k < l.length) : Oct.le (l.drop (l.length - 1 - k)) = 256 * Oct.le (l.drop (l.length - k)) + (l.getD (l.length - 1 - k) 0).toNat := by
  have e : l.drop (l.length - 1 - k) = l.getD (l.length - 1 - k) 0 :: l.drop (l.length - k) := by
    rw [List.drop_eq_getElem_cons (show l.length - 1 - k < l.length by omega), show l.length - 1 - k + 1 = l.length - k by omega]
    simp [List.getD, show l.length - 1 - k < l.length by omega]
  rw [e, Oct.le]
  omega
theorem wide_shift (v j : Nat) (h : (j : Int) < 64) : (((v : Nat) : Int) / 2 ^ j == 0) = !Bt.wideS v (j : Int) := by
  unfold Bt.wideS
  have e : (v : Int) / 2 ^ j = ((v / 2 ^ j : Nat) : Int) := by simp
  rw [e, show decide ((j : Int) < 64) = true from decide_eq_true h, Bool.true_and, Int.toNat_natCast]
  generalize v / 2 ^ j = x
  rw [Bool.eq_iff_iff]
  simp only [beq_iff_eq, Bool.not_eq_true', bne_eq_false_iff_eq]
  omega
set_option maxHeartbeats 2000000 in
theorem number_any {A : Option Addr} {n c B : Nat} {l : List UInt8} (m : Int) (w : World) (hb : RB w B A n c l) (hn : n ≤ 1000000) (hB : B ≤ w.heap.size) (hm : m ≤ 9223372036854775807) :
    Calls Tryz.prog 60 #[.agg #[.int .i64 m, .slice A n c]] w fun e w' => e = .returned (.tuple #[.int .u64 ((Bt.valS ⟨m, l⟩).1 : Int), .bool (Bt.valS ⟨m, l⟩).2]) ∧ Below w.heap.size w w' := by
  have hl := hb.len
  have C := Lib.hid (fun w => RBytes_any m w hm)
  have b1 := alloc_one w (.cells #[.int .i64 m, .slice A n c] 71)
  have F := (Blk.new w 71 #[.int .i64 m, .slice A n c]).two
  by_cases hf : 1 ≤ m ∧ m ≤ 64 ∧ (n : Int) = Bt.bytesS m
  · obtain ⟨h1, h2, h3⟩ := hf
    have hp := Bt.bytesS_pos h1 h2
    have hv : Bt.valS ⟨m, l⟩ = (Oct.le l, !Bt.wideS (Oct.le l) m) := by
      unfold Bt.valS Bt.fits
      rw [if_pos (decide_eq_true ⟨h1, h2, by dsimp only; rw [hl, h3]⟩)]
    have d1 : decide (m < 1) = false := decide_eq_false (by omega)
    have d2 : decide (64 < m) = false := decide_eq_false (by omega)
    have d3 : ((n : Int) != (n : Int)) = false := by simp
    have hn1 : 1 ≤ n := by omega
    have hn2 : n ≤ 8 := by omega
    rw [← h3] at C
    rw [hv]
    have HL := Lib.hid hl
    obtain ⟨b, o, rfl, hbB, hc⟩ := hb.at_ (show 0 < n by omega)
    have hbs : b < w.heap.size := by omega
    have hlow := fun k (h : k < l.length) => le_down l k h
    have HLOW := Lib.hid hlow
    have hlt0 := Oct.le_lt l
    have HLT := Lib.hid hlt0
    have HC := Lib.hid hc
    clear hv hl hb hp h3 hlow hlt0 hc
    go_enter Tryz.func60, Tryz.ntmps60
    go_wp2_with fail
    go_quiet ((go_at_call 61; exact quiet_same (C.out _)))
    go_wp2_with fail
    go_loop [4, 5] (fun v i => ∃ k : Nat, k ≤ n ∧ i = .int .i64 ((n : Int) - 1 - k) ∧ v = .int .u64 (Oct.le (l.drop (n - k)) : Int)) (fun _ i => (intOf i + 1).toNat)
    case atStart => exact ⟨0, by omega, by go_num, by rw [show l.drop (n - 0) = [] from List.drop_eq_nil_of_le (by have := HL.out; omega)]; rfl⟩
    case round =>
      obtain ⟨k, hk, rfl, rfl⟩ := hrel
      by_cases hlt : k < n
      · have hcell := HC.out (n - 1 - k) (by omega)
        have hx := (l.getD (n - 1 - k) 0).toNat_lt
        have hnx : Oct.le (l.drop (n - (k + 1))) = 256 * Oct.le (l.drop (n - k)) + (l.getD (n - 1 - k) 0).toNat := by
          have := HLOW.out k (by have := HL.out; omega)
          rw [HL.out] at this
          rw [show n - (k + 1) = n - 1 - k by omega, this]
        have hsm : Oct.le (l.drop (n - k)) < 72057594037927936 := by
          have h1 := Oct.le_lt (l.drop (n - k))
          rw [List.length_drop, HL.out, show n - (n - k) = k by omega] at h1
          exact Nat.lt_of_lt_of_le h1 (Nat.le_trans (Nat.pow_le_pow_right (by decide) (show k ≤ 7 by omega)) (by decide))
        generalize (l.getD (n - 1 - k) 0).toNat = x at *
        generalize Oct.le (l.drop (n - k)) = v at *
        have HN := Lib.hid hnx; clear hnx
        go_wp2_with fail
        go_round
        case rel => exact ⟨k + 1, by omega, by go_num, by rw [HN.out]; go_num⟩
        case measure => simp [intOf] <;> omega
      · obtain rfl : k = n := by omega
        rw [show l.drop (k - k) = l by simp]
        by_cases h64 : m = 64
        · subst h64
          go_wp2_with fail
          go_quiet (fail)
          go_wp2_with fail
          go_ret2
          exact ⟨rfl, below_drewN (below_drewN b1 _) _⟩
        · have h5 : m < 64 := by omega
          have d5 : (m == 64) = false := by rw [beq_eq_false_iff_ne]; exact h64
          clear h64
          obtain ⟨j, rfl⟩ : ∃ j : Nat, m = (j : Int) := ⟨m.toNat, by omega⟩
          go_wp2_with fail
          go_quiet (fail)
          go_wp2_with fail
          go_ret2
          refine ⟨?_, below_drewN (below_drewN b1 _) _⟩
          show Ending.returned (.tuple #[.int .u64 (Oct.le l : Int), .bool (((Oct.le l : Nat) : Int) / 2 ^ j == 0)]) = _
          rw [wide_shift _ _ h5]
  · have hv : Bt.valS ⟨m, l⟩ = (0, false) := by
      unfold Bt.valS Bt.fits
      rw [if_neg (by rw [decide_eq_true_iff]; dsimp only; rw [hl]; exact hf)]
    rw [hv]
    clear hv
    rcases (show m < 1 ∨ (1 ≤ m ∧ 64 < m) ∨ (1 ≤ m ∧ m ≤ 64 ∧ ¬ (n : Int) = Bt.bytesS m) by omega) with h | ⟨h1, h2⟩ | ⟨h1, h2, h3⟩
    all_goals
      try have h4 : ((n : Int) != Bt.bytesS m) = true := by rw [bne_iff_ne]; exact h3
      clear hf hl hb
      generalize Bt.bytesS m = z at *
      try clear h3
      try have d1 : decide (m < 1) = false := decide_eq_false (by omega)
      try have d2 : decide (64 < m) = false := decide_eq_false (by omega)
      go_enter Tryz.func60, Tryz.ntmps60
      go_wp2_with fail
      go_quiet ((go_at_call 61; exact quiet_same (C.out _)))
      go_wp2_with fail
      go_ret2
      exact ⟨rfl, below_drewN b1 _⟩
end Go.Proofs.YtoplpmfdgaabfaaGreat
