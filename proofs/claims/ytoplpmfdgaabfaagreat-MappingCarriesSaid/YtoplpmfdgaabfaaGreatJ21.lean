/-
  Texts joined: ValMem, DicTwo, MapOpen, Made, MapNil.
  Conditions: none.
-/
import Derived.Test.YtoplpmfdgaabfaaGreatJ04
import Derived.Test.YtoplpmfdgaabfaaGreatJ10
import Derived.Test.YtoplpmfdgaabfaaGreatJ15
import Derived.Test.YtoplpmfdgaabfaaGreatJ17
import Derived.Test.YtoplpmfdgaabfaaGreatJ18
import Derived.Test.YtoplpmfdgaabfaaGreatJ20
import Derived.Laws.IdiomArrays
/-
  Values in memory; Light of the references of layers 15 and 18; entries and values as arguments.
  Conditions: none.
-/
namespace Go.Proofs.YtoplpmfdgaabfaaGreat
set_option linter.unusedVariables false
set_option linter.unusedSimpArgs false
open Go.ChangeShapes Go.WideShapes Go.ChangeAt Go.RowKit
/-- The cells of a value that is read; its bytes below B. -/
def VlC (w : World) (B : Nat) (f : Dc.Vl) (cs : List Value) : Prop := ∃ A n c, cs = [.int .i64 f.index, .int .i64 f.sub, .slice A n c] ∧ RB w B A n c f.data
theorem VlC.below {w w' : World} {B : Nat} {f : Dc.Vl} {cs : List Value} (hb : Below B w w') (h : VlC w B f cs) : VlC w' B f cs := by
  obtain ⟨A, n, c, h1, h2⟩ := h
  exact ⟨A, n, c, h1, h2.below hb⟩
theorem VlC.more {w : World} {B B' : Nat} {f : Dc.Vl} {cs : List Value} (hB : B ≤ B') (h : VlC w B f cs) : VlC w B' f cs := by
  obtain ⟨A, n, c, h1, h2⟩ := h
  exact ⟨A, n, c, h1, h2.more hB⟩
def vl0 : Dc.Vl := ⟨0, 0, []⟩
def RVl (w : World) (B B' : Nat) (A : Option Addr) (n c : Nat) (fs : List Dc.Vl) : Prop := RS (VlC w B') w B 3 A n c fs
section
variable {w w' : World} {B B' n c : Nat} {A : Option Addr} {fs : List Dc.Vl}
theorem RVl.len (h : RVl w B B' A n c fs) : fs.length = n := RS.len h (by decide)
theorem RVl.lt (h : RVl w B B' A n c fs) : n ≤ 9223372036854775807 := RS.lt h
theorem RVl.below (h : RVl w B B' A n c fs) (hb : Below B w w') (hB : B' ≤ B) : RVl w' B B' A n c fs := RS.below h hb fun _ _ h => h.below (hb.mono hB)
theorem RVl.at_ (h : RVl w B B' A n c fs) {i : Nat} (hi : i < n) : ∃ b o A' n' c', A = some ⟨b, o, none⟩ ∧ b < B ∧ w.cell? ⟨b, o + i * 3, none⟩ = some (.int .i64 (fs.getD i vl0).index) ∧
    w.cell? ⟨b, o + i * 3 + 1, none⟩ = some (.int .i64 (fs.getD i vl0).sub) ∧ w.cell? ⟨b, o + i * 3 + 2, none⟩ = some (.slice A' n' c') ∧ RB w B' A' n' c' (fs.getD i vl0).data := by
  have hl := h.len
  have hf : fs[i]? = some (fs.getD i vl0) := by simp [List.getD, List.getElem?_eq_getElem (show i < fs.length by omega)]
  obtain ⟨b, o, cs, rfl, hb, ⟨A', n', c', rfl, hr⟩, hc⟩ := RS.at_ h (by decide) hf
  exact ⟨b, o, A', n', c', rfl, hb, hc 0 _ (by decide) rfl, hc 1 _ (by decide) rfl, hc 2 _ (by decide) rfl, hr⟩
end
section
variable {H : Type} {enc : TypeId × Value → H} {w : World} {spare : Nat → Bool} {held : Bool}
set_option maxRecDepth 100000 in
theorem cells_entry {fuel : Nat} {cs : List Value} {x : DataW H × List MemPlace} (h : DataW.trod enc Tryz.prog w 0 spare held fuel 57 cs = some x) : ∃ e, EnC w w.heap.size e cs ∧ e.name.length ≤ 9223372036854775807 := by
  have h3 : cs.length = 11 := trod_len Tryz.underlying57 h (by kernel_rfl)
  match cs, h3 with
  | [a0, a1, a2, a3, a4, a5, a6, a7, a8, a9, a10], _ =>
    obtain ⟨_, _, t0⟩ := trod_one Tryz.underlying57 h 0 3 0 a0 rfl (by kernel_rfl) rfl
    obtain ⟨_, _, t1⟩ := trod_one Tryz.underlying57 h 1 3 1 a1 rfl (by kernel_rfl) rfl
    obtain ⟨_, _, t2⟩ := trod_one Tryz.underlying57 h 2 9 2 a2 rfl (by kernel_rfl) rfl
    obtain ⟨_, _, t3⟩ := trod_one Tryz.underlying57 h 3 3 3 a3 rfl (by kernel_rfl) rfl
    obtain ⟨_, _, t4⟩ := trod_one Tryz.underlying57 h 4 3 4 a4 rfl (by kernel_rfl) rfl
    obtain ⟨_, _, t5⟩ := trod_one Tryz.underlying57 h 5 4 5 a5 rfl (by kernel_rfl) rfl
    obtain ⟨_, _, t6⟩ := trod_one Tryz.underlying57 h 6 4 6 a6 rfl (by kernel_rfl) rfl
    obtain ⟨_, _, t7⟩ := trod_one Tryz.underlying57 h 7 3 7 a7 rfl (by kernel_rfl) rfl
    obtain ⟨_, _, t8⟩ := trod_one Tryz.underlying57 h 8 2 8 a8 rfl (by kernel_rfl) rfl
    obtain ⟨_, _, t9⟩ := trod_one Tryz.underlying57 h 9 2 9 a9 rfl (by kernel_rfl) rfl
    obtain ⟨_, _, t10⟩ := trod_one Tryz.underlying57 h 10 25 10 a10 rfl (by kernel_rfl) rfl
    obtain ⟨i0, rfl, _⟩ := cell_int Tryz.underlying3 t0
    obtain ⟨i1, rfl, _⟩ := cell_int Tryz.underlying3 t1
    obtain ⟨s, rfl, hs⟩ := cell_string Tryz.underlying9 t2
    obtain ⟨i3, rfl, _⟩ := cell_int Tryz.underlying3 t3
    obtain ⟨i4, rfl, _⟩ := cell_int Tryz.underlying3 t4
    obtain ⟨b5, rfl⟩ := cell_bool Tryz.underlying4 t5
    obtain ⟨b6, rfl⟩ := cell_bool Tryz.underlying4 t6
    obtain ⟨i7, rfl, _⟩ := cell_int Tryz.underlying3 t7
    obtain ⟨i8, rfl, _⟩ := cell_int Tryz.underlying2 t8
    obtain ⟨i9, rfl, _⟩ := cell_int Tryz.underlying2 t9
    obtain ⟨A, n, c, l, rfl, hr⟩ := cell_bytes Tryz.underlying25 Tryz.underlying5 (by kernel_rfl) t10
    obtain ⟨nm, rfl⟩ := T_of s
    rw [T_size] at hs
    exact ⟨⟨i0, i1, nm, i3, i4, b5, b6, i7, i8, i9, l⟩, ⟨A, n, c, rfl, hr⟩, by simpa [maxLen] using hs⟩
/-- Entries, as their slice's cell. -/
theorem cell_entries {fuel : Nat} {v : Value} {x : DataW H × List MemPlace} (h : DataW.trod enc Tryz.prog w 0 spare held fuel 22 [v] = some x) :
    ∃ (A : Option Addr) (n c : Nat) (es : List Ent.En), v = .slice A n c ∧ REn w w.heap.size w.heap.size A n c es ∧ ∀ e ∈ es, e.name.length ≤ 9223372036854775807 := by
  obtain ⟨A, n, c, rfl⟩ := cell_slice Tryz.underlying22 h
  obtain ⟨es, xs, hl, h1, h2⟩ := open_rows (fun e cs => EnC w w.heap.size e cs ∧ e.name.length ≤ 9223372036854775807) Tryz.underlying22 (show Tryz.prog.cellsOf 57 = 11 by kernel_rfl) (by decide) (fun _ _ _ h => cells_entry h) h
  refine ⟨A, n, c, es, rfl, ⟨xs, h1, h2.imp fun _ _ h => h.1⟩, fun f hm => ?_⟩
  obtain ⟨i, hi, rfl⟩ := List.getElem_of_mem hm
  exact (h2.2 i _ (List.getElem?_eq_getElem hi)).2
theorem cells_value {fuel : Nat} {cs : List Value} {x : DataW H × List MemPlace} (h : DataW.trod enc Tryz.prog w 0 spare held fuel 45 cs = some x) : ∃ f, VlC w w.heap.size f cs := by
  have h3 : cs.length = 3 := trod_len Tryz.underlying45 h (by kernel_rfl)
  match cs, h3 with
  | [a, b, d], _ =>
    obtain ⟨_, _, t0⟩ := trod_one Tryz.underlying45 h 0 3 0 a rfl (by kernel_rfl) rfl
    obtain ⟨_, _, t1⟩ := trod_one Tryz.underlying45 h 1 3 1 b rfl (by kernel_rfl) rfl
    obtain ⟨_, _, t2⟩ := trod_one Tryz.underlying45 h 2 25 2 d rfl (by kernel_rfl) rfl
    obtain ⟨i, rfl, _⟩ := cell_int Tryz.underlying3 t0
    obtain ⟨j, rfl, _⟩ := cell_int Tryz.underlying3 t1
    obtain ⟨A, n, c, l, rfl, hr⟩ := cell_bytes Tryz.underlying25 Tryz.underlying5 (by kernel_rfl) t2
    exact ⟨⟨i, j, l⟩, A, n, c, rfl, hr⟩
theorem cell_values {fuel : Nat} {v : Value} {x : DataW H × List MemPlace} (h : DataW.trod enc Tryz.prog w 0 spare held fuel 23 [v] = some x) :
    ∃ (A : Option Addr) (n c : Nat) (vs : List Dc.Vl), v = .slice A n c ∧ RVl w w.heap.size w.heap.size A n c vs := by
  obtain ⟨A, n, c, rfl⟩ := cell_slice Tryz.underlying23 h
  obtain ⟨es, xs, hl, h1, h2⟩ := open_rows (VlC w w.heap.size) Tryz.underlying23 (show Tryz.prog.cellsOf 45 = 3 by kernel_rfl) (by decide) (fun _ _ _ h => cells_value h) h
  exact ⟨A, n, c, es, rfl, xs, h1, h2⟩
end
/-- What Light tells of entries. -/
def Light15P (n : Nat) (es : List Ent.En) (w : World) (e : Ending) (w' : World) : Prop := ∃ b : Bool, e = .returned (.bool b) ∧ w = w' ∧ (b = true → n ≤ 200 ∧ ∀ e ∈ es, e.name.length ≤ 1000 ∧ e.dflt.length ≤ 1000)
theorem light15_no {n : Nat} {es : List Ent.En} {w : World} : Light15P n es w (.returned (.bool false)) w := ⟨false, rfl, rfl, fun h => by cases h⟩
theorem light15_yes {n : Nat} {es : List Ent.En} {w : World} (hl : es.length = n) (h : n ≤ 200 ∧ ∀ i, i < n → (es.getD i Dc.en0).name.length ≤ 1000 ∧ (es.getD i Dc.en0).dflt.length ≤ 1000) : Light15P n es w (.returned (.bool true)) w :=
  ⟨true, rfl, rfl, fun _ => ⟨h.1, fun e he => by
    obtain ⟨i, hi, rfl⟩ := List.getElem_of_mem he
    have := h.2 i (by omega)
    rwa [List.getD_eq_getElem?_getD, List.getElem?_eq_getElem hi] at this⟩⟩
set_option maxRecDepth 100000 in
set_option maxHeartbeats 1000000 in
theorem Light15_any {A : Option Addr} {n c B B' : Nat} {es : List Ent.En} (w : World) (h : REn w B B' A n c es) (hnm : ∀ e ∈ es, e.name.length ≤ 9223372036854775807) :
    Calls Tryz.prog 16 #[.slice A n c] w (Light15P n es w) := by
  have hn := h.lt
  have hl := h.len
  by_cases h200 : 200 < n
  · go_enter Tryz.func16, Tryz.ntmps16
    go_wp2_with fail
    go_ret
    exact light15_no
  · have HL := Lib.hid hl
    go_enter Tryz.func16, Tryz.ntmps16
    go_wp2_with fail
    go_loop [3] (fun i => ∃ k : Nat, k ≤ n ∧ i = .int .i64 k ∧ ∀ j, j < k → (es.getD j Dc.en0).name.length ≤ 1000 ∧ (es.getD j Dc.en0).dflt.length ≤ 1000) (fun i => n - (intOf i).toNat)
    case atStart => exact ⟨0, by omega, rfl, fun _ h => absurd h (by omega)⟩
    case round =>
      obtain ⟨k, hk, rfl, hall⟩ := hrel
      have HALL := Lib.hid hall; clear hall
      by_cases hlt : k < n
      · obtain ⟨b, o, A1, n1, c1, rfl, hbB, hr, hc⟩ := h.at_ hlt
        have q2 := hc 2 _ rfl
        have q10 := hc 10 _ rfl
        have hrl := hr.len
        have hmem : es.getD k Dc.en0 ∈ es := by
          rw [List.getD_eq_getElem?_getD, List.getElem?_eq_getElem (by omega)]
          exact List.getElem_mem _
        have hnl := hnm _ hmem
        have HJ := Lib.hid (fun (h1 : (es.getD k Dc.en0).name.length ≤ 1000) (h2 : n1 ≤ 1000) (j : Nat) (hj : j < k + 1) => show (es.getD j Dc.en0).name.length ≤ 1000 ∧ (es.getD j Dc.en0).dflt.length ≤ 1000 from by
          rcases Nat.lt_or_ge j k with h | h
          · exact HALL.out j h
          · obtain rfl : j = k := by omega
            exact ⟨h1, by rw [hrl]; exact h2⟩)
        clear hmem hrl hr hc hnm hl
        generalize es.getD k Dc.en0 = e0 at *
        obtain ⟨ix, sb, nm, ty, ac, mp, st, mx, lo, hi, df⟩ := e0
        dsimp only at q2 q10 hnl HJ
        have hts := T_size nm
        by_cases hbig : 1000 < n1
        · go_wp2_with fail
          go_ret
          exact light15_no
        · by_cases hbig2 : 1000 < nm.length
          · go_wp2_with fail
            go_ret
            exact light15_no
          · have HTS := Lib.hid hts
            go_wp2_with fail
            go_round
            case rel => exact ⟨k + 1, by omega, by go_num, HJ.out (by omega) (by omega)⟩
            case measure => simp [intOf] <;> omega
      · obtain rfl : k = n := by omega
        go_wp2_with fail
        go_ret
        exact light15_yes HL.out ⟨by omega, HALL.out⟩
def Light18P (n : Nat) (es : List Dc.Vl) (w : World) (e : Ending) (w' : World) : Prop := ∃ b : Bool, e = .returned (.bool b) ∧ w = w' ∧ (b = true → n ≤ 200 ∧ ∀ e ∈ es, e.data.length ≤ 2000)
theorem light18_no {n : Nat} {es : List Dc.Vl} {w : World} : Light18P n es w (.returned (.bool false)) w := ⟨false, rfl, rfl, fun h => by cases h⟩
theorem light18_yes {n : Nat} {es : List Dc.Vl} {w : World} (hl : es.length = n) (h : n ≤ 200 ∧ ∀ i, i < n → (es.getD i vl0).data.length ≤ 2000) : Light18P n es w (.returned (.bool true)) w :=
  ⟨true, rfl, rfl, fun _ => ⟨h.1, fun e he => by
    obtain ⟨i, hi, rfl⟩ := List.getElem_of_mem he
    have := h.2 i (by omega)
    rwa [List.getD_eq_getElem?_getD, List.getElem?_eq_getElem hi] at this⟩⟩
set_option maxRecDepth 100000 in
set_option maxHeartbeats 1000000 in
theorem Light18_any {A : Option Addr} {n c B B' : Nat} {es : List Dc.Vl} (w : World) (h : RVl w B B' A n c es) :
    Calls Tryz.prog 17 #[.slice A n c] w (Light18P n es w) := by
  have hn := h.lt
  have hl := h.len
  by_cases h200 : 200 < n
  · go_enter Tryz.func17, Tryz.ntmps17
    go_wp2_with fail
    go_ret
    exact light18_no
  · have HL := Lib.hid hl
    clear hl
    go_enter Tryz.func17, Tryz.ntmps17
    go_wp2_with fail
    go_loop [3] (fun i => ∃ k : Nat, k ≤ n ∧ i = .int .i64 k ∧ ∀ j, j < k → (es.getD j vl0).data.length ≤ 2000) (fun i => n - (intOf i).toNat)
    case atStart => exact ⟨0, by omega, rfl, fun _ h => absurd h (by omega)⟩
    case round =>
      obtain ⟨k, hk, rfl, hall⟩ := hrel
      have HALL := Lib.hid hall; clear hall
      by_cases hlt : k < n
      · obtain ⟨b, o, A1, n1, c1, rfl, hbB, q0, q1, q2, hr⟩ := h.at_ hlt
        have hrl := hr.len
        have HJ := Lib.hid (fun (h2 : n1 ≤ 2000) (j : Nat) (hj : j < k + 1) => show (es.getD j vl0).data.length ≤ 2000 from by
          rcases Nat.lt_or_ge j k with h | h
          · exact HALL.out j h
          · obtain rfl : j = k := by omega
            rw [hrl]; exact h2)
        clear q0 q1 hr hrl
        by_cases hbig : 2000 < n1
        · go_wp2_with fail
          go_ret
          exact light18_no
        · go_wp2_with fail
          go_round
          case rel => exact ⟨k + 1, by omega, by go_num, HJ.out (by omega)⟩
          case measure => simp [intOf] <;> omega
      · obtain rfl : k = n := by omega
        go_wp2_with fail
        go_ret
        exact light18_yes HL.out ⟨by omega, HALL.out⟩
end Go.Proofs.YtoplpmfdgaabfaaGreat
/-
  A dictionary of the program and one of the reference, beside one another.
  Conditions: none.
-/
namespace Go.Proofs.YtoplpmfdgaabfaaGreat.Dc
set_option linter.unusedVariables false
set_option linter.unusedSimpArgs false
/-- Values poked, one after the other. -/
def pokesS (D : Dic) (l : List Vl) : Dic := l.foldl (fun D v => pokeS D v.index v.sub v.data) D
theorem pokes_take (D : Dic) (l : List Vl) {k : Nat} (hk : k < l.length) : pokesS D (l.take (k + 1)) = pokeS (pokesS D (l.take k)) (l.getD k ⟨0, 0, []⟩).index (l.getD k ⟨0, 0, []⟩).sub (l.getD k ⟨0, 0, []⟩).data := by
  unfold pokesS
  rw [List.take_succ_eq_append_getElem hk, List.foldl_append, List.getD_eq_getElem?_getD, List.getElem?_eq_getElem hk]
  rfl
theorem poke_l (D : Dic) (x y : Int) (b : List UInt8) : (pokeS D x y b).l = D.l := by
  unfold pokeS
  split
  · rfl
  · split <;> rfl
theorem pokes_l : ∀ (l : List Vl) (D : Dic), (pokesS D l).l = D.l
  | [], _ => rfl
  | v :: l, D => by
    show (pokesS (pokeS D v.index v.sub v.data) l).l = D.l
    rw [pokes_l l, poke_l]
/-- What its values fulfil: as long as is let, and right. -/
structure Fine (D : Dic) : Prop where
  len : D.v.length = D.l.length
  sm : ∀ v ∈ D.v, v.length ≤ 2000
  ok : ∀ k, k < D.l.length → Ent.valS (D.l.getD k en0) (D.v.getD k []) = 0
theorem getD_set {α : Type} (L : List α) (i k : Nat) (b d : α) : (L.set i b).getD k d = if i = k ∧ k < L.length then b else L.getD k d := by
  rw [List.getD_eq_getElem?_getD, List.getElem?_set, List.getD_eq_getElem?_getD]
  by_cases h : i = k
  · subst h
    by_cases h2 : i < L.length
    · simp [h2]
    · rw [if_pos rfl, if_neg h2, if_neg (by omega), List.getElem?_eq_none (by omega)]
  · simp [h]
theorem Fine.poke {D : Dic} (h : Fine D) (x y : Int) {b : List UInt8} (hb : b.length ≤ 2000) : Fine (pokeS D x y b) := by
  unfold pokeS
  cases hf : findS D.l x y with
  | none => exact h
  | some k =>
    dsimp only
    split
    · rename_i hv
      refine ⟨by rw [List.length_set]; exact h.len, fun v hv' => ?_, fun i hi => ?_⟩
      · rcases List.mem_or_eq_of_mem_set hv' with h1 | h1
        · exact h.sm v h1
        · subst h1; exact hb
      · dsimp only at hi ⊢
        rw [getD_set]
        split
        · rename_i h2
          rw [← h2.1]
          exact hv
        · exact h.ok i hi
    · exact h
theorem Fine.pokes {vs : List Vl} (hb : ∀ v ∈ vs, v.data.length ≤ 2000) : ∀ {D : Dic}, Fine D → Fine (pokesS D vs) := by
  induction vs with
  | nil => exact fun h => h
  | cons v l ih => exact fun h => ih (fun x hx => hb x (List.mem_cons_of_mem _ hx)) (h.poke _ _ (hb v (List.mem_cons_self ..)))
/-- A new dictionary's values. -/
theorem Fine.new {es : List Ent.En} (h : (newS es).1 = 0) (hs : ∀ e ∈ es, e.dflt.length ≤ 2000) : Fine ⟨es, es.map (·.dflt)⟩ := by
  obtain ⟨_, _, h3⟩ := new_ok h
  refine ⟨by simp, fun v hv => ?_, fun k hk => ?_⟩
  · obtain ⟨e, he, rfl⟩ := List.mem_map.1 hv
    exact hs e he
  · dsimp only at hk ⊢
    have e1 : (es.map (·.dflt)).getD k [] = (es.getD k en0).dflt := by
      simp [List.getD, List.getElem?_map, List.getElem?_eq_getElem hk]
    rw [e1]
    have hm : es.getD k en0 ∈ es := by
      rw [List.getD_eq_getElem?_getD, List.getElem?_eq_getElem hk]
      exact List.getElem_mem hk
    exact (Ent.right_iff (h3 _ hm)).2.2.2.2.2.2.2.2
end Go.Proofs.YtoplpmfdgaabfaaGreat.Dc
namespace Go.Proofs.YtoplpmfdgaabfaaGreat
set_option linter.unusedVariables false
set_option linter.unusedSimpArgs false
open Go.RowKit
section
variable {t : TypeId} {F : Nat → Prop} {w w' : World} {g gv lc vc : Nat} {lA vA : Option Addr} {xs vs : List Value} {D : Dc.Dic}
/-- Its values' row, where it is, or a place that is not there. -/
theorem DRt.fix (h : DRt t w F g gv lA lc vA vc xs vs D) : ∃ gv2, DRt t w F g gv2 lA lc vA vc xs vs D ∧ (F gv2 ∨ gv2 = w.heap.size) := by
  cases hk : (Value.slice vA D.l.length vc).ownBlock with
  | some k =>
    have := h.at_ k hk
    exact ⟨gv, h, .inl this.2⟩
  | none =>
    have h0 : D.l.length = 0 := by
      rcases Nat.eq_zero_or_pos D.l.length with h0 | h0
      · exact h0
      · obtain ⟨q, e, _, _⟩ := h.own.head h0
        subst e
        simp [Value.ownBlock] at hk
    have hl : D.l = [] := List.eq_nil_of_length_eq_zero h0
    have hv : D.v = [] := List.eq_nil_of_length_eq_zero (by rw [h.len, h0])
    refine ⟨w.heap.size, { fg := h.fg, ne := (by have := h.blk.lt; omega), blk := h.blk, row := ⟨h.row.len, h.row.le, h.row.cap, h.row.nil, fun h1 => absurd h1 (by omega)⟩, rows := ⟨h.rows.1, fun i f hf => by rw [hl] at hf; simp at hf⟩, own := h.own, at_ := (fun k hk2 => by rw [hk] at hk2; cases hk2), vals := ⟨h.vals.1, fun i f hf => by rw [hv] at hf; simp at hf⟩, len := h.len, ord := h.ord, few := h.few, right := h.right }, .inr rfl⟩
/-- Blocks that are there. -/
theorem DRt.cut (h : DRt t w F g gv lA lc vA vc xs vs D) : DRt t w (fun q => F q ∧ q < w.heap.size) g gv lA lc vA vc xs vs D := h.mono fun _ hb hf => ⟨hf, hb⟩
end
/-- A dictionary, its blocks from 'base' on. -/
def One (t : TypeId) (w : World) (base g : Nat) (F : Nat → Prop) (D : Dc.Dic) : Prop := ∃ (gv lc vc : Nat) (la : Addr) (vA : Option Addr) (xs vs : List Value), DRt t w F g gv (some la) lc vA vc xs vs D ∧ ∀ q, F q → base ≤ q ∧ q < w.heap.size
def OneR (t : TypeId) (w : World) (base g : Nat) (F : Nat → Prop) (D : Dc.Dic) : Prop := ∃ (gv lc vc : Nat) (lA vA : Option Addr) (xs vs : List Value), DRt t w F g gv lA lc vA vc xs vs D ∧ ∀ q, F q → base ≤ q ∧ q < w.heap.size
section
variable {t : TypeId} {F G : Nat → Prop} {w w' : World} {base g : Nat} {D : Dc.Dic}
theorem One.r (h : One t w base g F D) : OneR t w base g F D := by
  obtain ⟨gv, lc, vc, la, vA, xs, vs, h1, h2⟩ := h
  exact ⟨gv, lc, vc, some la, vA, xs, vs, h1, h2⟩
theorem One.mv (h : One t w base g F D) (hm : Mv G w w') (hd : ∀ b, b < w.heap.size → F b → ¬ G b) : One t w' base g F D := by
  obtain ⟨gv, lc, vc, la, vA, xs, vs, h1, h2⟩ := h
  exact ⟨gv, lc, vc, la, vA, xs, vs, h1.mv hm hd, fun q hq => by have := h2 q hq; have := hm.size; omega⟩
theorem OneR.mv (h : OneR t w base g F D) (hm : Mv G w w') (hd : ∀ b, b < w.heap.size → F b → ¬ G b) : OneR t w' base g F D := by
  obtain ⟨gv, lc, vc, la, vA, xs, vs, h1, h2⟩ := h
  exact ⟨gv, lc, vc, la, vA, xs, vs, h1.mv hm hd, fun q hq => by have := h2 q hq; have := hm.size; omega⟩
theorem One.below (h : One t w base g F D) (hb : Below w.heap.size w w') : One t w' base g F D := h.mv (Mv.of_new hb fun _ => False) fun _ _ _ h => h
theorem OneR.below (h : OneR t w base g F D) (hb : Below w.heap.size w w') : OneR t w' base g F D := h.mv (Mv.of_new hb fun _ => False) fun _ _ _ h => h
theorem One.lt (h : One t w base g F D) : ∀ q, F q → base ≤ q ∧ q < w.heap.size := by
  obtain ⟨gv, lc, vc, la, vA, xs, vs, h1, h2⟩ := h; exact h2
theorem OneR.lt (h : OneR t w base g F D) : ∀ q, F q → base ≤ q ∧ q < w.heap.size := by
  obtain ⟨gv, lc, vc, la, vA, xs, vs, h1, h2⟩ := h; exact h2
end
section
variable {F F' : Nat → Prop} {w : World} {base g n c B : Nat} {A : Option Addr} {b : List UInt8} {D : Dc.Dic}
/-- What a poke does to a dictionary of the program. -/
theorem One.poke (h : One 89 w base g F D) (hbase : base ≤ w.heap.size) (x y : Int) (hb : RB w B A n c b) (hB : B ≤ w.heap.size) (hn : n < 140737488355328) :
    Calls Tryz.prog 20 #[.pointer (some ⟨g, 0, none⟩), .int .i64 x, .int .i64 y, .slice A n c] w fun e w' => e = .returned (.int .u32 (Dc.mayS D.l true x y b)) ∧ Mv F w w' ∧ Below base w w' ∧ One 89 w' base g (fun q => F q ∨ (w.heap.size ≤ q ∧ q < w'.heap.size)) (Dc.pokeS D x y b) := by
  obtain ⟨gv, lc, vc, la, vA, xs, vs, h1, h2⟩ := h
  obtain ⟨gv2, h3, h4⟩ := h1.fix
  refine (dPoke_any x y h3 hb hB hn).mono ?_
  rintro e w' ⟨he, hm, vs', hd⟩
  have hm' : Mv F w w' := hm.mono fun q hq e => by
    rcases h4 with h4 | h4
    · rw [e]; exact h4
    · omega
  have hlow : base ≤ gv2 := by
    rcases h4 with h4 | h4
    · exact (h2 _ h4).1
    · omega
  refine ⟨he, hm', hm.below hbase fun q e => by subst e; exact hlow, gv2, lc, vc, la, vA, xs, vs', hd, fun q hq => ?_⟩
  have hz := hm.size
  rcases hq with hq | hq
  · have := h2 q hq; omega
  · omega
theorem OneR.poke (h : OneR 85 w base g F D) (hbase : base ≤ w.heap.size) (x y : Int) (hb : RB w B A n c b) (hB : B ≤ w.heap.size) (hn : n < 140737488355328) :
    Calls Tryz.prog 21 #[.pointer (some ⟨g, 0, none⟩), .int .i64 x, .int .i64 y, .slice A n c] w fun e w' => e = .returned (.int .u32 (Dc.mayS D.l true x y b)) ∧ Mv F w w' ∧ Below base w w' ∧ OneR 85 w' base g (fun q => F q ∨ (w.heap.size ≤ q ∧ q < w'.heap.size)) (Dc.pokeS D x y b) := by
  obtain ⟨gv, lc, vc, la, vA, xs, vs, h1, h2⟩ := h
  obtain ⟨gv2, h3, h4⟩ := h1.fix
  refine (rPoke_any x y h3 hb hB hn).mono ?_
  rintro e w' ⟨he, hm, vs', hd⟩
  have hm' : Mv F w w' := hm.mono fun q hq e => by
    rcases h4 with h4 | h4
    · rw [e]; exact h4
    · omega
  have hlow : base ≤ gv2 := by
    rcases h4 with h4 | h4
    · exact (h2 _ h4).1
    · omega
  refine ⟨he, hm', hm.below hbase fun q e => by subst e; exact hlow, gv2, lc, vc, la, vA, xs, vs', hd, fun q hq => ?_⟩
  have hz := hm.size
  rcases hq with hq | hq
  · have := h2 q hq; omega
  · omega
end
/-- Both of them, apart. -/
def Two (w : World) (base g g' : Nat) (D D' : Dc.Dic) : Prop := ∃ F F' : Nat → Prop, One 89 w base g F D ∧ OneR 85 w base g' F' D' ∧ ∀ q, F q → ¬ F' q
section
variable {w w' : World} {base base' g g' n c B : Nat} {A : Option Addr} {b : List UInt8} {D D' : Dc.Dic}
theorem Two.below (h : Two w base g g' D D') (hb : Below w.heap.size w w') : Two w' base g g' D D' := by
  obtain ⟨F, F', h1, h2, h3⟩ := h
  exact ⟨F, F', h1.below hb, h2.below hb, h3⟩
theorem Two.more (h : Two w base g g' D D') (hb : base' ≤ base) : Two w base' g g' D D' := by
  obtain ⟨F, F', ⟨gv, lc, vc, la, vA, xs, vs, h1, h2⟩, ⟨gv', lc', vc', lA', vA', xs', vs', h3, h4⟩, h5⟩ := h
  exact ⟨F, F', ⟨gv, lc, vc, la, vA, xs, vs, h1, fun q hq => by have := h2 q hq; omega⟩, ⟨gv', lc', vc', lA', vA', xs', vs', h3, fun q hq => by have := h4 q hq; omega⟩, h5⟩
theorem Two.pokeD (h : Two w base g g' D D') (hbase : base ≤ w.heap.size) (x y : Int) (hb : RB w B A n c b) (hB : B ≤ w.heap.size) (hn : n < 140737488355328) :
    Calls Tryz.prog 20 #[.pointer (some ⟨g, 0, none⟩), .int .i64 x, .int .i64 y, .slice A n c] w fun e w' => e = .returned (.int .u32 (Dc.mayS D.l true x y b)) ∧ Below base w w' ∧ Two w' base g g' (Dc.pokeS D x y b) D' := by
  obtain ⟨F, F', h1, h2, h3⟩ := h
  refine (h1.poke hbase x y hb hB hn).mono ?_
  rintro e w' ⟨he, hm, hbl, ho⟩
  refine ⟨he, hbl, _, F', ho, h2.mv hm fun q _ hf hf2 => h3 q hf2 hf, fun q hq hq2 => ?_⟩
  rcases hq with hq | hq
  · exact h3 q hq hq2
  · have := (h2.lt q hq2).2; omega
theorem Two.pokeR (h : Two w base g g' D D') (hbase : base ≤ w.heap.size) (x y : Int) (hb : RB w B A n c b) (hB : B ≤ w.heap.size) (hn : n < 140737488355328) :
    Calls Tryz.prog 21 #[.pointer (some ⟨g', 0, none⟩), .int .i64 x, .int .i64 y, .slice A n c] w fun e w' => e = .returned (.int .u32 (Dc.mayS D'.l true x y b)) ∧ Below base w w' ∧ Two w' base g g' D (Dc.pokeS D' x y b) := by
  obtain ⟨F, F', h1, h2, h3⟩ := h
  refine (h2.poke hbase x y hb hB hn).mono ?_
  rintro e w' ⟨he, hm, hbl, ho⟩
  refine ⟨he, hbl, F, _, h1.mv hm fun q _ hf hf2 => h3 q hf hf2, ho, fun q hq hq2 => ?_⟩
  rcases hq2 with hq2 | hq2
  · exact h3 q hq hq2
  · have := (h1.lt q hq).2; omega
/-- Two that were made, one after the other. -/
theorem Two.new {w w1 w2 : World} {g gv lc vc g' gv' lc' vc' : Nat} {la : Addr} {vA lA' vA' : Option Addr} {xs vs xs' vs' : List Value} {D D' : Dc.Dic} (b1 : Below w.heap.size w w1) (b2 : Below w1.heap.size w1 w2)
    (h1 : DRt 89 w1 (fun q => w.heap.size ≤ q) g gv (some la) lc vA vc xs vs D) (h2 : DRt 85 w2 (fun q => w1.heap.size ≤ q) g' gv' lA' lc' vA' vc' xs' vs' D') : Two w2 w.heap.size g g' D D' := by
  have hz1 := b1.size
  have hz2 := b2.size
  exact ⟨_, _, ⟨gv, lc, vc, la, vA, xs, vs, h1.cut.below b2, fun q hq => by have := hq; omega⟩, ⟨gv', lc', vc', lA', vA', xs', vs', h2.cut, fun q hq => by have := hq; omega⟩, fun q hq hq2 => by have := hq; have := hq2; omega⟩
end
end Go.Proofs.YtoplpmfdgaabfaaGreat
/-
  Arguments of the statements of layer 30.
  Conditions: none.
-/
namespace Go.Proofs.YtoplpmfdgaabfaaGreat
set_option linter.unusedVariables false
set_option linter.unusedSimpArgs false
open Go.ChangeShapes Go.WideShapes Go.ChangeAt Go.RowKit
section
variable {H : Type} {enc : TypeId × Value → H} {w : World} {spare : Nat → Bool} {held : Bool}
set_option maxRecDepth 100000 in
theorem cell_words {fuel : Nat} {v : Value} {x : DataW H × List MemPlace} (h : DataW.trod enc Tryz.prog w 0 spare held fuel 24 [v] = some x) :
    ∃ (A : Option Addr) (n c : Nat) (ws : List Nat), v = .slice A n c ∧ RW w w.heap.size A n c ws ∧ ∀ x ∈ ws, x < 4294967296 := by
  obtain ⟨A, n, c, rfl⟩ := cell_slice Tryz.underlying24 h
  obtain ⟨ws, xs, hl, h1, h2⟩ := open_rows (fun (x : Nat) cs => cs = [.int .u32 (x : Int)] ∧ x < 4294967296) Tryz.underlying24 (show Tryz.prog.cellsOf 54 = 1 by kernel_rfl) (by decide) (fun _ cs _ h => by
    have h3 : cs.length = 1 := (DataW.trod_int Tryz.underlying54 h).elim fun z hz => by rw [hz.1]; rfl
    match cs, h3 with
    | [a], _ =>
      obtain ⟨i, rfl, hw⟩ := cell_int Tryz.underlying54 h
      obtain ⟨b1, b2⟩ := bounds_u32 hw
      obtain ⟨m, rfl⟩ := Int.eq_ofNat_of_zero_le b1
      exact ⟨m, rfl, by omega⟩) h
  have e : xs = ws.map fun (x : Nat) => Value.int .u32 (x : Int) := by
    apply List.ext_getElem?
    intro i
    have hx := h2.len
    rw [List.getElem?_map]
    by_cases hi : i < ws.length
    · have := (h2.2 i _ (List.getElem?_eq_getElem hi)).1
      have e0 : ((xs.drop (i * 1)).take 1)[0]? = xs[i]? := by rw [List.getElem?_take, List.getElem?_drop]; simp
      rw [this] at e0
      simp [List.getElem?_eq_getElem hi, ← e0]
    · rw [List.getElem?_eq_none (by omega), List.getElem?_eq_none (by omega)]; rfl
  subst e
  refine ⟨A, n, c, ws, rfl, h1, fun x hm => ?_⟩
  obtain ⟨i, hi, rfl⟩ := List.getElem_of_mem hm
  exact (h2.2 i _ (List.getElem?_eq_getElem hi)).2
set_option maxRecDepth 100000 in
theorem open_case {r : Reach} {b0 : Nat} {v : Value} {d : DataW H} {p : List MemPlace} (hv : Value.okWide Tryz.prog w r b0 27 v) (h : DataW.Trod enc Tryz.prog w 0 spare held 27 v d p) :
    ∃ (A0 A1 A2 A3 : Option Addr) (n0 c0 n1 c1 n2 c2 n3 c3 : Nat) (es : List Ent.En) (vs : List Dc.Vl) (ws : List Nat) (bs : List UInt8), v = .agg #[.slice A0 n0 c0, .slice A1 n1 c1, .slice A2 n2 c2, .slice A3 n3 c3] ∧
      REn w w.heap.size w.heap.size A0 n0 c0 es ∧ (∀ e ∈ es, e.name.length ≤ 9223372036854775807) ∧ RVl w w.heap.size w.heap.size A1 n1 c1 vs ∧ RW w w.heap.size A2 n2 c2 ws ∧ (∀ x ∈ ws, x < 4294967296) ∧ RB w w.heap.size A3 n3 c3 bs := by
  obtain ⟨cs, rfl, hsz⟩ := okWide_struct Tryz.underlying27 hv
  obtain ⟨fuel, hf⟩ := h
  have hf' : DataW.trod enc Tryz.prog w 0 spare held fuel 27 cs.toList = some (d, p) := by simpa [Value.cells] using hf
  have h3 : cs.toList.length = 4 := trod_len Tryz.underlying27 hf' (by kernel_rfl)
  obtain ⟨l, hl⟩ : ∃ l, l = cs.toList := ⟨_, rfl⟩
  rw [← hl] at h3 hf'
  match l, h3 with
  | [a, b, c, e], _ =>
    obtain ⟨_, _, t0⟩ := trod_one Tryz.underlying27 hf' 0 22 0 a rfl (by kernel_rfl) rfl
    obtain ⟨_, _, t1⟩ := trod_one Tryz.underlying27 hf' 1 23 1 b rfl (by kernel_rfl) rfl
    obtain ⟨_, _, t2⟩ := trod_one Tryz.underlying27 hf' 2 24 2 c rfl (by kernel_rfl) rfl
    obtain ⟨_, _, t3⟩ := trod_one Tryz.underlying27 hf' 3 25 3 e rfl (by kernel_rfl) rfl
    obtain ⟨A0, n0, c0, es, rfl, r0, r0'⟩ := cell_entries t0
    obtain ⟨A1, n1, c1, vs, rfl, r1⟩ := cell_values t1
    obtain ⟨A2, n2, c2, ws, rfl, r2, r2'⟩ := cell_words t2
    obtain ⟨A3, n3, c3, bs, rfl, r3⟩ := cell_bytes Tryz.underlying25 Tryz.underlying5 (by kernel_rfl) t3
    refine ⟨A0, A1, A2, A3, n0, c0, n1, c1, n2, c2, n3, c3, es, vs, ws, bs, ?_, r0, r0', r1, r2, r2', r3⟩
    rw [← Array.toArray_toList (xs := cs), ← hl]
end
end Go.Proofs.YtoplpmfdgaabfaaGreat
/-
  Walk: 'made' of the statements of layer 30.
  Conditions: none.
-/
namespace Go.Proofs.YtoplpmfdgaabfaaGreat
set_option linter.unusedVariables false
set_option linter.unusedSimpArgs false
open Go.RowKit
/-- What 'made' hands back: two dictionaries that are alike, or none. -/
def MadeP (nw nb : Nat) (w : World) (e : Ending) (w' : World) : Prop :=
  (e = .returned (.tuple #[.pointer none, .pointer none, .bool false]) ∧ Below w.heap.size w w') ∨
  (∃ g g' D, e = .returned (.tuple #[.pointer (some ⟨g, 0, none⟩), .pointer (some ⟨g', 0, none⟩), .bool true]) ∧ Below w.heap.size w w' ∧ nw ≤ 100 ∧ nb ≤ 1000 ∧ Two w' w.heap.size g g' D D ∧ Dc.Fine D ∧ (∀ e ∈ D.l, e.dflt.length ≤ 1000))
theorem made_no {nw nb : Nat} {w w' : World} (hb : Below w.heap.size w w') : MadeP nw nb w (.returned (.tuple #[.pointer none, .pointer none, .bool false])) w' := .inl ⟨rfl, hb⟩
set_option maxRecDepth 100000 in
set_option maxHeartbeats 8000000 in
theorem made30_any {A0 A1 A2 A3 : Option Addr} {n0 c0 n1 c1 n2 c2 n3 c3 B : Nat} {es : List Ent.En} {vls : List Dc.Vl} (w : World) (h0 : REn w B B A0 n0 c0 es) (hnm : ∀ e ∈ es, e.name.length ≤ 9223372036854775807) (h1 : RVl w B B A1 n1 c1 vls) (hB : B ≤ w.heap.size) :
    Calls Tryz.prog 4 #[.agg #[.slice A0 n0 c0, .slice A1 n1 c1, .slice A2 n2 c2, .slice A3 n3 c3]] w (MadeP n2 n3 w) := by
  have b0 := alloc_one w (.cells #[.slice A0 n0 c0, .slice A1 n1 c1, .slice A2 n2 c2, .slice A3 n3 c3] 27)
  have K := Blk.new w 27 #[.slice A0 n0 c0, .slice A1 n1 c1, .slice A2 n2 c2, .slice A3 n3 c3]
  have K4 := K.four
  have L15 := Lib.hid (fun w' (hb : Below w.heap.size w w') => Light15_any w' (h0.below (hb.mono hB) (Nat.le_refl _)) hnm)
  have L18 := Lib.hid (fun w' (hb : Below w.heap.size w w') => Light18_any w' (h1.below (hb.mono hB) (Nat.le_refl _)))
  go_enter Tryz.func4, Tryz.ntmps4
  go_wp2_with fail
  refine (L15.out _ b0).mono ?_
  rintro e _ ⟨bl, rfl, rfl, hbl⟩
  cases bl
  · clear hbl
    go_wp2_with fail
    go_ret3
    exact made_no b0
  · obtain ⟨_, hes⟩ := hbl rfl
    clear hbl
    go_wp2_with fail
    refine (L18.out _ b0).mono ?_
    rintro e _ ⟨bl, rfl, rfl, hbl⟩
    cases bl
    · clear hbl
      go_wp2_with fail
      go_ret3
      exact made_no b0
    · obtain ⟨hv200, hvs⟩ := hbl rfl
      clear hbl
      by_cases h100 : 100 < n2
      · go_wp2_with fail
        go_ret3
        exact made_no b0
      · by_cases h1000 : 1000 < n3
        · go_wp2_with fail
          go_ret3
          exact made_no b0
        · have ND := dNew_any _ (h0.below (b0.mono hB) (Nat.le_refl _)) (Nat.le_trans hB b0.size) (Nat.le_refl _) (fun e he => by have := hes e he; omega)
          have NR := fun w' (hb : Below w.heap.size w w') => rNew_any w' (h0.below (hb.mono hB) (Nat.le_refl _)) (Nat.le_trans hB hb.size) (Nat.le_refl _) (fun e he => by have := hes e he; omega)
          unfold NewPost at ND
          unfold RNewPost at NR
          have hfine := Dc.Fine.new (es := es)
          generalize hD : (⟨es, es.map (·.dflt)⟩ : Dc.Dic) = D0 at *
          have hDl : D0.l = es := by rw [← hD]
          clear hD
          generalize Dc.newS es = nn at *
          obtain ⟨ne, np⟩ := nn
          dsimp only at ND NR hfine
          have HL := Lib.hid h1.len
          replace ND := Lib.hid ND; replace NR := Lib.hid NR
          by_cases hne : ne = 0
          · subst hne
            have hf0 := Lib.hid (hfine rfl (fun e he => by have := hes e he; omega))
            have HDS := Lib.hid (show ∀ e ∈ D0.l, e.dflt.length ≤ 1000 by rw [hDl]; exact fun e he => (hes e he).2)
            clear hfine hDl
            go_wp2_with fail
            refine (ND.out).mono ?_
            rintro e w1 (⟨_, b1, g, gv, lc, vc, la, vA, xs, vs, rfl, hd⟩ | ⟨hx, _⟩)
            case inr => exact absurd rfl hx
            have d1 := below_step b0 b1 (Nat.le_refl _)
            have K1 := (K.later b1).four
            clear K4
            go_wp2_with fail
            refine (NR.out _ d1).mono ?_
            rintro e w2 (⟨_, b2, g', gv', lc', vc', lA', vA', xs', vs', rfl, hd'⟩ | ⟨hx, _⟩)
            case inr => exact absurd rfl hx
            have TW := Two.new b1 b2 hd hd'
            have KK : Blk w2 w.heap.size 27 #[.slice A0 n0 c0, .slice A1 n1 c1, .slice A2 n2 c2, .slice A3 n3 c3] := (K.later b1).later b2
            have d2 := below_step d1 b2 (Nat.le_refl _)
            have d12 := below_step b1 b2 (Nat.le_refl _)
            clear hd hd' K1 b1 b2 d1 ND NR L15 L18 h0 hes K
            rw [World.size_alloc] at TW
            have hv1 := h1.lt
            go_wp2_with fail
            go_loopw [11] (fun i wr => ∃ k : Nat, k ≤ n1 ∧ i = .int .i64 k ∧ Below w.heap.size w wr ∧ Blk wr w.heap.size 27 #[.slice A0 n0 c0, .slice A1 n1 c1, .slice A2 n2 c2, .slice A3 n3 c3] ∧ Two wr (w.heap.size + 1) g g' (Dc.pokesS D0 (vls.take k)) (Dc.pokesS D0 (vls.take k))) (fun i _ => n1 - (intOf i).toNat)
            case atStart => exact ⟨0, by omega, rfl, d2, KK, TW⟩
            case round =>
              clear d2 KK TW d12
              obtain ⟨k, hk, rfl, bb, KK, TW⟩ := hrel
              have K4 := KK.four
              by_cases hlt : k < n1
              · obtain ⟨b, o, A', n', c', rfl, hbB, q0, q1, q2, hr⟩ := (h1.below (bb.mono hB) (Nat.le_refl _)).at_ hlt
                have hpk := Dc.pokes_take D0 vls (k := k) (by rw [HL.out]; exact hlt)
                rw [show (⟨0, 0, []⟩ : Dc.Vl) = vl0 from rfl] at hpk
                have hdl : (vls.getD k vl0).data.length ≤ 2000 := by
                  have hm : vls.getD k vl0 ∈ vls := by
                    rw [List.getD_eq_getElem?_getD, List.getElem?_eq_getElem (by rw [HL.out]; exact hlt)]
                    exact List.getElem_mem _
                  exact hvs _ hm
                have hrl := hr.len
                generalize vls.getD k vl0 = v at *
                obtain ⟨vi, vsb, vd⟩ := v
                dsimp only at q0 q1 hr hpk hdl hrl
                generalize Dc.pokesS D0 (vls.take k) = DD at *
                have HPK := Lib.hid hpk
                clear hpk
                obtain ⟨F, F', t1, t2, t3⟩ := TW
                have hF := t1.lt
                have hF' := t2.lt
                have hGb : ¬ F w.heap.size := fun h => by have := hF _ h; omega
                have hGb' : ¬ F' w.heap.size := fun h => by have := hF' _ h; omega
                have hGv : ¬ F b := fun h => by have := hF _ h; omega
                have hGv' : ¬ F' b := fun h => by have := hF' _ h; omega
                have hz := bb.size
                have hw1 : w.heap.size + 1 ≤ wr.heap.size := KK.lt
                have k1 := cell_mv (G := F) K4.1.2.1 hGb
                have v0 := cell_mv (G := F) q0 hGv
                have v1 := cell_mv (G := F) q1 hGv
                have v2 := cell_mv (G := F) q2 hGv
                have PK := Lib.hid ((t1.below (below_drew wr)).poke hw1 vi vsb (hr.drew) (Nat.le_trans hB hz) (by omega))
                have i0 : (0 : Int) ≤ (k : Int) := by omega
                have i1 : (k : Int) < (n1 : Int) := by omega
                go_wp2_with fail
                refine region_mv 99 F (by kernel_rfl) ?_
                refine phase_mv (by kernel_rfl) 1 (Mv.refl _ _).drew [0, 1, 3, 7, 9, 13, 15, 2, 8, 14, 4, 10, 16, 5, 11, 17, 6, 12, 18] rfl (by kernel_rfl) ?_
                simp only [picks, nth]
                repeat (go_big_quiet_step (fail))
                refine wpQuiet_nil ?_
                refine phase_opL 19 0 rfl (by kernel_rfl) (by decide) ?_
                simp only [nth]
                go_wp2_with fail
                refine (PK.out).mono ?_
                rintro e w2 ⟨rfl, m2, b2, u1⟩
                have M2 : Mv F wr w2 := (Mv.of_new (below_drew wr) F).trans m2 fun _ _ h => h
                go_wp2_with fail
                refine behind_mv M2 ?_
                refine phase_endL (by kernel_rfl) ?_
                have b2' : Below (w.heap.size + 1) wr w2 := ((below_drew wr).mono hw1).trans b2
                have u2 := t2.mv M2 fun q _ hf hf2 => t3 q hf2 hf
                have KK2 := KK.mv M2 hGb
                have bb2 := bb.trans (b2'.mono (Nat.le_succ _))
                have hr2 := hr.below (b2'.mono (by omega))
                have K42 := KK2.four
                have hz2 := bb2.size
                have hw2 : w.heap.size + 1 ≤ w2.heap.size := KK2.lt
                have q0' := (b2'.cell (p := ⟨b, o + k * 3, none⟩) (by dsimp only; omega)).trans q0
                have q1' := (b2'.cell (p := ⟨b, o + k * 3 + 1, none⟩) (by dsimp only; omega)).trans q1
                have q2' := (b2'.cell (p := ⟨b, o + k * 3 + 2, none⟩) (by dsimp only; omega)).trans q2
                clear k1 v0 v1 v2 K4 q0 q1 q2
                have k1 := cell_mv (G := F') K42.1.2.1 hGb'
                have v0 := cell_mv (G := F') q0' hGv'
                have v1 := cell_mv (G := F') q1' hGv'
                have v2 := cell_mv (G := F') q2' hGv'
                have PR := Lib.hid ((u2.below (below_drew w2)).poke hw2 vi vsb (hr2.drew) (Nat.le_trans hB hz2) (by omega))
                have hdis : ∀ q, F' q → ¬ (F q ∨ (wr.drew.heap.size ≤ q ∧ q < w2.heap.size)) := fun q h h2 => by
                  rcases h2 with h2 | h2
                  · exact t3 q h2 h
                  · have := (hF' q h).2; have h3 : wr.heap.size ≤ q := h2.1; omega
                have HDIS := Lib.hid hdis
                clear hdis t3
                go_wp2_with fail
                refine region_mv 99 F' (by kernel_rfl) ?_
                refine phase_mv (by kernel_rfl) 1 (Mv.refl _ _).drew [0, 1, 3, 7, 9, 13, 15, 2, 8, 14, 4, 10, 16, 5, 11, 17, 6, 12, 18] rfl (by kernel_rfl) ?_
                simp only [picks, nth]
                repeat (go_big_quiet_step (fail))
                refine wpQuiet_nil ?_
                refine phase_opL 19 0 rfl (by kernel_rfl) (by decide) ?_
                simp only [nth]
                go_wp2_with fail
                refine (PR.out).mono ?_
                rintro e w3 ⟨rfl, m3, b3, u3⟩
                have M3 : Mv F' w2 w3 := (Mv.of_new (below_drew w2) F').trans m3 fun _ _ h => h
                go_wp2_with fail
                refine behind_mv M3 ?_
                refine phase_endL (by kernel_rfl) ?_
                have b3' : Below (w.heap.size + 1) w2 w3 := ((below_drew w2).mono hw2).trans b3
                have u4 := u1.mv M3 fun q _ hf hf2 => HDIS.out q hf2 hf
                have KK3 := KK2.mv M3 hGb'
                have bb3 := bb2.trans (b3'.mono (Nat.le_succ _))
                have hlt4 := u1.lt
                have TW' : Two w3 (w.heap.size + 1) g g' (Dc.pokeS DD vi vsb vd) (Dc.pokeS DD vi vsb vd) := ⟨_, _, u4, u3, fun q h h2 => by
                  rcases h2 with h2 | h2
                  · exact HDIS.out q h2 h
                  · have := (hlt4 q h).2; have h3 : w2.heap.size ≤ q := h2.1; omega⟩
                clear k1 v0 v1 v2 PK PR hlt4
                go_wp2_with fail
                go_roundw
                case rel => exact ⟨k + 1, by omega, by go_num, bb3, KK3, by rw [HPK.out]; exact TW'⟩
                case measure => simp [intOf] <;> omega
              · obtain rfl : k = n1 := by omega
                go_wp2_with fail
                go_ret3
                rw [List.take_of_length_le (by rw [HL.out]; omega)] at TW
                exact .inr ⟨g, g', _, rfl, bb, by omega, by omega, TW.more (Nat.le_succ _), hf0.out.pokes hvs, by rw [Dc.pokes_l]; exact HDS.out⟩
          · have hne2 : (ne == 0) = false := by simpa using hne
            have hne3 : (ne != 0) = true := by simpa using hne
            have HNE := Lib.hid hne
            clear hfine hDl hne
            go_wp2_with fail
            refine (ND.out).mono ?_
            rintro e w1 (⟨hx, _⟩ | ⟨_, b1, rfl⟩)
            case inl => exact absurd hx HNE.out
            have d1 := below_step b0 b1 (Nat.le_refl _)
            have K1 := (K.later b1).four
            clear K4
            go_wp2_with fail
            refine (NR.out _ d1).mono ?_
            rintro e w2 (⟨hx, _⟩ | ⟨_, b2, a, rfl⟩)
            case inl => exact absurd hx HNE.out
            go_wp2_with fail
            go_ret3
            exact made_no (below_step d1 b2 (Nat.le_refl _))
end Go.Proofs.YtoplpmfdgaabfaaGreat
/-
  Walks: Check of layer 30 without a dictionary.
  Conditions: none.
-/
namespace Go.Proofs.YtoplpmfdgaabfaaGreat
set_option linter.unusedVariables false
set_option linter.unusedSimpArgs false
open Go.RowKit
set_option maxHeartbeats 1000000 in
theorem MCheck_nil (A : Option Addr) (n c : Nat) (b : Bool) (w : World) : Calls Tryz.prog 23 #[.pointer none, .slice A n c, .bool b] w fun e w' => e = .returned (.int .u32 100925511) ∧ w = w' := by
  go_enter Tryz.func23, Tryz.ntmps23
  go_wp2_with fail
  go_ret
  exact ⟨rfl, rfl⟩
theorem Calls.grown_same {P : Program} {f : FuncId} {args : Array Value} {w : World} {d : Nat} {os : Array Obj} {v : Value}
    (h : Calls P f args (Go.Sort.grow (redrawn w d) os) fun e w' => e = .returned v ∧ Go.Sort.grow (redrawn w d) os = w') : Calls P f args (Go.Sort.grow (redrawn w d) os) fun e w'' => e = .returned v ∧ ∃ p : Regrown, w'' = Go.Sort.grow (redrawn w p.d) p.os :=
  h.mono fun _ _ ⟨he, hb⟩ => ⟨he, ⟨d, os⟩, hb.symm⟩
set_option maxHeartbeats 1000000 in
theorem MRight_nil (A : Option Addr) (n c : Nat) (b : Bool) (w : World) : Calls Tryz.prog 25 #[.pointer none, .slice A n c, .bool b] w fun e w' => e = .returned (.int .i64 17) ∧ w = w' := by
  go_enter Tryz.func25, Tryz.ntmps25
  go_wp2_with fail
  go_ret
  exact ⟨rfl, rfl⟩
set_option maxHeartbeats 1000000 in
theorem Gather_nil (A : Option Addr) (n c : Nat) (w : World) : Calls Tryz.prog 7 #[.pointer none, .slice A n c] w fun e w' => e = .returned (.tuple #[.slice none 0 0, .int .i64 17]) ∧ w = w' := by
  have R := Lib.hid (fun w => MRight_nil A n c false w)
  go_enter Tryz.func7, Tryz.ntmps7
  go_wp2_with fail
  refine (R.out _).mono ?_
  rintro e _ ⟨rfl, rfl⟩
  go_wp2_with fail
  go_ret2
  exact ⟨rfl, rfl⟩
set_option maxHeartbeats 1000000 in
theorem Scatter_nil (A : Option Addr) (n c : Nat) (A' : Option Addr) (n' c' : Nat) (w : World) : Calls Tryz.prog 9 #[.pointer none, .slice A n c, .slice A' n' c'] w fun e w' => e = .returned (.tuple #[.slice none 0 0, .int .i64 17]) ∧ w = w' := by
  have R := Lib.hid (fun w => MRight_nil A n c true w)
  go_enter Tryz.func9, Tryz.ntmps9
  go_wp2_with fail
  refine (R.out _).mono ?_
  rintro e _ ⟨rfl, rfl⟩
  go_wp2_with fail
  go_ret2
  exact ⟨rfl, rfl⟩
end Go.Proofs.YtoplpmfdgaabfaaGreat
