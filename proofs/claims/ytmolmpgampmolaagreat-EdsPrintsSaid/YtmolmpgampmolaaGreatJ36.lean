/-
  Texts joined: ValMem, EdsOpen.
  Conditions: none.
-/
import Derived.Test.YtmolmpgampmolaaGreatJ04
import Derived.Test.YtmolmpgampmolaaGreatJ05
import Derived.Test.YtmolmpgampmolaaGreatJ08
import Derived.Test.YtmolmpgampmolaaGreatJ16
/-
  Values in memory; Light of the references of layers 15 and 18; entries and values as arguments.
  Conditions: none.
-/
namespace Go.Proofs.YtmolmpgampmolaaGreat
set_option linter.unusedVariables false
set_option linter.unusedSimpArgs false
open Go.ChangeShapes Go.WideShapes Go.ChangeAt Go.RowKit
/-- The cells of a value that is read; its bytes below B. -/
def VlC (w : World) (B : Nat) (f : Dc.Vl) (cs : List Value) : Prop := ∃ A n c, cs = [.int .i64 f.index, .int .i64 f.sub, .slice A n c] ∧ RB w B A n c f.data
theorem VlC.below {w w' : World} {B : Nat} {f : Dc.Vl} {cs : List Value} (hb : Below B w w') (h : VlC w B f cs) : VlC w' B f cs := by
  obtain ⟨A, n, c, h1, h2⟩ := h
  exact ⟨A, n, c, h1, h2.below hb⟩
theorem VlC.more {w : World} {B B' : Nat} {f : Dc.Vl} {cs : List Value} (hB : B ≤ B') (h : VlC w B f cs) : VlC w B' f cs := by
  obtain ⟨A, n, c, h1, h2⟩ := h
  exact ⟨A, n, c, h1, h2.more hB⟩
def vl0 : Dc.Vl := ⟨0, 0, []⟩
def RVl (w : World) (B B' : Nat) (A : Option Addr) (n c : Nat) (fs : List Dc.Vl) : Prop := RS (VlC w B') w B 3 A n c fs
section
variable {w w' : World} {B B' n c : Nat} {A : Option Addr} {fs : List Dc.Vl}
theorem RVl.len (h : RVl w B B' A n c fs) : fs.length = n := RS.len h (by decide)
theorem RVl.lt (h : RVl w B B' A n c fs) : n ≤ 9223372036854775807 := RS.lt h
theorem RVl.below (h : RVl w B B' A n c fs) (hb : Below B w w') (hB : B' ≤ B) : RVl w' B B' A n c fs := RS.below h hb fun _ _ h => h.below (hb.mono hB)
theorem RVl.at_ (h : RVl w B B' A n c fs) {i : Nat} (hi : i < n) : ∃ b o A' n' c', A = some ⟨b, o, none⟩ ∧ b < B ∧ w.cell? ⟨b, o + i * 3, none⟩ = some (.int .i64 (fs.getD i vl0).index) ∧
    w.cell? ⟨b, o + i * 3 + 1, none⟩ = some (.int .i64 (fs.getD i vl0).sub) ∧ w.cell? ⟨b, o + i * 3 + 2, none⟩ = some (.slice A' n' c') ∧ RB w B' A' n' c' (fs.getD i vl0).data := by
  have hl := h.len
  have hf : fs[i]? = some (fs.getD i vl0) := by simp [List.getD, List.getElem?_eq_getElem (show i < fs.length by omega)]
  obtain ⟨b, o, cs, rfl, hb, ⟨A', n', c', rfl, hr⟩, hc⟩ := RS.at_ h (by decide) hf
  exact ⟨b, o, A', n', c', rfl, hb, hc 0 _ (by decide) rfl, hc 1 _ (by decide) rfl, hc 2 _ (by decide) rfl, hr⟩
end
section
variable {H : Type} {enc : TypeId × Value → H} {w : World} {spare : Nat → Bool} {held : Bool}
set_option maxRecDepth 100000 in
theorem cells_entry {fuel : Nat} {cs : List Value} {x : DataW H × List MemPlace} (h : DataW.trod enc Tryz.prog w 0 spare held fuel 31 cs = some x) : ∃ e, EnC w w.heap.size e cs ∧ e.name.length ≤ 9223372036854775807 := by
  have h3 : cs.length = 11 := trod_len Tryz.underlying31 h (by kernel_rfl)
  match cs, h3 with
  | [a0, a1, a2, a3, a4, a5, a6, a7, a8, a9, a10], _ =>
    obtain ⟨_, _, t0⟩ := trod_one Tryz.underlying31 h 0 3 0 a0 rfl (by kernel_rfl) rfl
    obtain ⟨_, _, t1⟩ := trod_one Tryz.underlying31 h 1 3 1 a1 rfl (by kernel_rfl) rfl
    obtain ⟨_, _, t2⟩ := trod_one Tryz.underlying31 h 2 9 2 a2 rfl (by kernel_rfl) rfl
    obtain ⟨_, _, t3⟩ := trod_one Tryz.underlying31 h 3 3 3 a3 rfl (by kernel_rfl) rfl
    obtain ⟨_, _, t4⟩ := trod_one Tryz.underlying31 h 4 3 4 a4 rfl (by kernel_rfl) rfl
    obtain ⟨_, _, t5⟩ := trod_one Tryz.underlying31 h 5 4 5 a5 rfl (by kernel_rfl) rfl
    obtain ⟨_, _, t6⟩ := trod_one Tryz.underlying31 h 6 4 6 a6 rfl (by kernel_rfl) rfl
    obtain ⟨_, _, t7⟩ := trod_one Tryz.underlying31 h 7 3 7 a7 rfl (by kernel_rfl) rfl
    obtain ⟨_, _, t8⟩ := trod_one Tryz.underlying31 h 8 2 8 a8 rfl (by kernel_rfl) rfl
    obtain ⟨_, _, t9⟩ := trod_one Tryz.underlying31 h 9 2 9 a9 rfl (by kernel_rfl) rfl
    obtain ⟨_, _, t10⟩ := trod_one Tryz.underlying31 h 10 29 10 a10 rfl (by kernel_rfl) rfl
    obtain ⟨i0, rfl, _⟩ := cell_int Tryz.underlying3 t0
    obtain ⟨i1, rfl, _⟩ := cell_int Tryz.underlying3 t1
    obtain ⟨s, rfl, hs⟩ := cell_string Tryz.underlying9 t2
    obtain ⟨i3, rfl, _⟩ := cell_int Tryz.underlying3 t3
    obtain ⟨i4, rfl, _⟩ := cell_int Tryz.underlying3 t4
    obtain ⟨b5, rfl⟩ := cell_bool Tryz.underlying4 t5
    obtain ⟨b6, rfl⟩ := cell_bool Tryz.underlying4 t6
    obtain ⟨i7, rfl, _⟩ := cell_int Tryz.underlying3 t7
    obtain ⟨i8, rfl, _⟩ := cell_int Tryz.underlying2 t8
    obtain ⟨i9, rfl, _⟩ := cell_int Tryz.underlying2 t9
    obtain ⟨A, n, c, l, rfl, hr⟩ := cell_bytes Tryz.underlying29 Tryz.underlying5 (by kernel_rfl) t10
    obtain ⟨nm, rfl⟩ := T_of s
    rw [T_size] at hs
    exact ⟨⟨i0, i1, nm, i3, i4, b5, b6, i7, i8, i9, l⟩, ⟨A, n, c, rfl, hr⟩, by simpa [maxLen] using hs⟩
/-- Entries, as their slice's cell. -/
theorem cell_entries {fuel : Nat} {v : Value} {x : DataW H × List MemPlace} (h : DataW.trod enc Tryz.prog w 0 spare held fuel 23 [v] = some x) :
    ∃ (A : Option Addr) (n c : Nat) (es : List Ent.En), v = .slice A n c ∧ REn w w.heap.size w.heap.size A n c es ∧ ∀ e ∈ es, e.name.length ≤ 9223372036854775807 := by
  obtain ⟨A, n, c, rfl⟩ := cell_slice Tryz.underlying23 h
  obtain ⟨es, xs, hl, h1, h2⟩ := open_rows (fun e cs => EnC w w.heap.size e cs ∧ e.name.length ≤ 9223372036854775807) Tryz.underlying23 (show Tryz.prog.cellsOf 31 = 11 by kernel_rfl) (by decide) (fun _ _ _ h => cells_entry h) h
  refine ⟨A, n, c, es, rfl, ⟨xs, h1, h2.imp fun _ _ h => h.1⟩, fun f hm => ?_⟩
  obtain ⟨i, hi, rfl⟩ := List.getElem_of_mem hm
  exact (h2.2 i _ (List.getElem?_eq_getElem hi)).2
end
/-- What Light tells of entries. -/
def Light15P (n : Nat) (es : List Ent.En) (w : World) (e : Ending) (w' : World) : Prop := ∃ b : Bool, e = .returned (.bool b) ∧ w = w' ∧ (b = true → n ≤ 200 ∧ ∀ e ∈ es, e.name.length ≤ 1000 ∧ e.dflt.length ≤ 1000)
theorem light15_no {n : Nat} {es : List Ent.En} {w : World} : Light15P n es w (.returned (.bool false)) w := ⟨false, rfl, rfl, fun h => by cases h⟩
theorem light15_yes {n : Nat} {es : List Ent.En} {w : World} (hl : es.length = n) (h : n ≤ 200 ∧ ∀ i, i < n → (es.getD i Dc.en0).name.length ≤ 1000 ∧ (es.getD i Dc.en0).dflt.length ≤ 1000) : Light15P n es w (.returned (.bool true)) w :=
  ⟨true, rfl, rfl, fun _ => ⟨h.1, fun e he => by
    obtain ⟨i, hi, rfl⟩ := List.getElem_of_mem he
    have := h.2 i (by omega)
    rwa [List.getD_eq_getElem?_getD, List.getElem?_eq_getElem hi] at this⟩⟩
set_option maxRecDepth 100000 in
set_option maxHeartbeats 1000000 in
theorem Light15_any {A : Option Addr} {n c B B' : Nat} {es : List Ent.En} (w : World) (h : REn w B B' A n c es) (hnm : ∀ e ∈ es, e.name.length ≤ 9223372036854775807) :
    Calls Tryz.prog 10 #[.slice A n c] w (Light15P n es w) := by
  have hn := h.lt
  have hl := h.len
  by_cases h200 : 200 < n
  · go_enter Tryz.func10, Tryz.ntmps10
    go_wp2_with fail
    go_ret
    exact light15_no
  · have HL := Lib.hid hl
    go_enter Tryz.func10, Tryz.ntmps10
    go_wp2_with fail
    go_loop [3] (fun i => ∃ k : Nat, k ≤ n ∧ i = .int .i64 k ∧ ∀ j, j < k → (es.getD j Dc.en0).name.length ≤ 1000 ∧ (es.getD j Dc.en0).dflt.length ≤ 1000) (fun i => n - (intOf i).toNat)
    case atStart => exact ⟨0, by omega, rfl, fun _ h => absurd h (by omega)⟩
    case round =>
      obtain ⟨k, hk, rfl, hall⟩ := hrel
      have HALL := Lib.hid hall; clear hall
      by_cases hlt : k < n
      · obtain ⟨b, o, A1, n1, c1, rfl, hbB, hr, hc⟩ := h.at_ hlt
        have q2 := hc 2 _ rfl
        have q10 := hc 10 _ rfl
        have hrl := hr.len
        have hmem : es.getD k Dc.en0 ∈ es := by
          rw [List.getD_eq_getElem?_getD, List.getElem?_eq_getElem (by omega)]
          exact List.getElem_mem _
        have hnl := hnm _ hmem
        have HJ := Lib.hid (fun (h1 : (es.getD k Dc.en0).name.length ≤ 1000) (h2 : n1 ≤ 1000) (j : Nat) (hj : j < k + 1) => show (es.getD j Dc.en0).name.length ≤ 1000 ∧ (es.getD j Dc.en0).dflt.length ≤ 1000 from by
          rcases Nat.lt_or_ge j k with h | h
          · exact HALL.out j h
          · obtain rfl : j = k := by omega
            exact ⟨h1, by rw [hrl]; exact h2⟩)
        clear hmem hrl hr hc hnm hl
        generalize es.getD k Dc.en0 = e0 at *
        obtain ⟨ix, sb, nm, ty, ac, mp, st, mx, lo, hi, df⟩ := e0
        dsimp only at q2 q10 hnl HJ
        have hts := T_size nm
        by_cases hbig : 1000 < n1
        · go_wp2_with fail
          go_ret
          exact light15_no
        · by_cases hbig2 : 1000 < nm.length
          · go_wp2_with fail
            go_ret
            exact light15_no
          · have HTS := Lib.hid hts
            go_wp2_with fail
            go_round
            case rel => exact ⟨k + 1, by omega, by go_num, HJ.out (by omega) (by omega)⟩
            case measure => simp [intOf] <;> omega
      · obtain rfl : k = n := by omega
        go_wp2_with fail
        go_ret
        exact light15_yes HL.out ⟨by omega, HALL.out⟩
end Go.Proofs.YtmolmpgampmolaaGreat
/-
  An entry, and entries, as arguments.
  Conditions: none.
-/
namespace Go.Proofs.YtmolmpgampmolaaGreat
set_option linter.unusedVariables false
set_option linter.unusedSimpArgs false
open Go.ChangeShapes Go.WideShapes Go.ChangeAt Go.RowKit
section
variable {H : Type} {enc : TypeId × Value → H} {w : World} {spare : Nat → Bool} {held : Bool}
set_option maxRecDepth 100000 in
theorem open_entry {r : Reach} {b0 : Nat} {v : Value} {d : DataW H} {p : List MemPlace} (hv : Value.okWide Tryz.prog w r b0 31 v) (h : DataW.Trod enc Tryz.prog w 0 spare held 31 v d p) :
    ∃ (e : Ent.En) (A : Option Addr) (n c : Nat), v = enV e A n c ∧ RB w w.heap.size A n c e.dflt ∧ e.name.length ≤ 9223372036854775807 := by
  obtain ⟨cs, rfl, hsz⟩ := okWide_struct Tryz.underlying31 hv
  obtain ⟨fuel, hf⟩ := h
  obtain ⟨f, ⟨A, n, c, e, hr⟩, hw⟩ := cells_entry hf
  have e : cs.toList = enL f A n c := by simpa [Value.cells] using e
  refine ⟨f, A, n, c, ?_, hr, hw⟩
  rw [← Array.toArray_toList (xs := cs), e]
  rfl
set_option maxRecDepth 100000 in
theorem open_entries {r : Reach} {b0 : Nat} {v : Value} {d : DataW H} {p : List MemPlace} (hv : Value.okWide Tryz.prog w r b0 23 v) (h : DataW.Trod enc Tryz.prog w 0 spare held 23 v d p) :
    ∃ (A : Option Addr) (n c : Nat) (es : List Ent.En), v = .slice A n c ∧ REn w w.heap.size w.heap.size A n c es ∧ ∀ e ∈ es, e.name.length ≤ 9223372036854775807 := by
  obtain ⟨A, n, c, rfl⟩ := okWide_slice Tryz.underlying23 hv
  obtain ⟨fuel, hf⟩ := h
  obtain ⟨A', n', c', es, e, h1, h2⟩ := cell_entries hf
  cases e
  exact ⟨A, n, c, es, rfl, h1, h2⟩
end
end Go.Proofs.YtmolmpgampmolaaGreat
