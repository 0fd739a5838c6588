/-
  Fields in memory: of the program and of the reference.
  Conditions: none.
-/
import Derived.Test.YtecgahhdbhdplaaSeq
import Derived.Test.YtecgahhdbhdplaaWords
import Derived.Test.YtecgahhdbhdplaaSpoil
import Derived.Test.YtecgahhdbhdplaaBitFld
namespace Go.Proofs.Ytecgahhdbhdplaa
set_option linter.unusedVariables false
set_option linter.unusedSimpArgs false
open Go.ChangeShapes Go.WideShapes Go.ChangeAt Go.RowKit
/-- The cells of a field. -/
def FlC (w : World) (B : Nat) (f : Bt.Fld) (cs : List Value) : Prop := ∃ A n c, cs = [.int .i64 f.bits, .slice A n c] ∧ RB w B A n c f.data
theorem FlC.keep {w w' : World} {B : Nat} {f : Bt.Fld} {cs : List Value} (hk : ∀ p : Addr, p.block < B → w'.cell? p = w.cell? p) (h : FlC w B f cs) : FlC w' B f cs := by
  obtain ⟨A, n, c, h1, h2⟩ := h
  exact ⟨A, n, c, h1, h2.keep hk⟩
theorem FlC.below {w w' : World} {B : Nat} {f : Bt.Fld} {cs : List Value} (hb : Below B w w') (h : FlC w B f cs) : FlC w' B f cs := h.keep fun _ hp => hb.cell hp
theorem FlC.more {w : World} {B B' : Nat} {f : Bt.Fld} {cs : List Value} (hB : B ≤ B') (h : FlC w B f cs) : FlC w B' f cs := by
  obtain ⟨A, n, c, h1, h2⟩ := h
  exact ⟨A, n, c, h1, h2.more hB⟩
/-- A slice of fields; the bytes of its elements below B'. -/
def RFl (w : World) (B B' : Nat) (A : Option Addr) (n c : Nat) (fs : List Bt.Fld) : Prop := RS (FlC w B') w B 2 A n c fs
section
variable {w w' : World} {B B' n c : Nat} {A : Option Addr} {fs : List Bt.Fld}
theorem RFl.len (h : RFl w B B' A n c fs) : fs.length = n := RS.len h (by decide)
theorem RFl.lt (h : RFl w B B' A n c fs) : n ≤ 9223372036854775807 := RS.lt h
theorem RFl.below (h : RFl w B B' A n c fs) (hb : Below B w w') (hB : B' ≤ B) : RFl w' B B' A n c fs := RS.below h hb fun _ _ h => h.below (hb.mono hB)
theorem RFl.drew (h : RFl w B B' A n c fs) : RFl w.drew B B' A n c fs := RS.keep h (fun _ _ => rfl) fun _ _ h => FlC.keep (w := w) (fun _ _ => rfl) h
theorem RFl.at_ (h : RFl w B B' A n c fs) {i : Nat} (hi : i < n) : ∃ b o A' n' c', A = some ⟨b, o, none⟩ ∧ b < B ∧ w.cell? ⟨b, o + i * 2, none⟩ = some (.int .i64 (fs.getD i Bt.Fld.zero).bits) ∧
    w.cell? ⟨b, o + i * 2 + 1, none⟩ = some (.slice A' n' c') ∧ RB w B' A' n' c' (fs.getD i Bt.Fld.zero).data := by
  have hl := h.len
  have hf : fs[i]? = some (fs.getD i Bt.Fld.zero) := by simp [List.getD, List.getElem?_eq_getElem (show i < fs.length by omega)]
  obtain ⟨b, o, cs, rfl, hb, ⟨A', n', c', rfl, hr⟩, hc⟩ := RS.at_ h (by decide) hf
  exact ⟨b, o, A', n', c', rfl, hb, hc 0 _ (by decide) rfl, hc 1 _ (by decide) rfl, hr⟩
end
/-- A slice of numbers. -/
def RI (w : World) (B : Nat) (A : Option Addr) (n c : Nat) (ws : List Int) : Prop := RV w B 1 A n c (ws.map (Value.int .i64))
section
variable {w w' : World} {B B' n c : Nat} {A : Option Addr} {ws : List Int}
theorem RI.len (h : RI w B A n c ws) : ws.length = n := by have := RV.len h; simpa using this
theorem RI.lt (h : RI w B A n c ws) : n ≤ 9223372036854775807 := Nat.le_trans (RV.le h) (RV.cap h)
theorem RI.below (h : RI w B A n c ws) (hb : Below B w w') : RI w' B A n c ws := RV.below h hb
theorem RI.at_ (h : RI w B A n c ws) {i : Nat} (hi : i < n) : ∃ b o, A = some ⟨b, o, none⟩ ∧ b < B ∧ w.cell? ⟨b, o + i, none⟩ = some (.int .i64 (ws.getD i 0)) := by
  have hl := h.len
  obtain ⟨b, o, rfl, hb, hc⟩ := RV.at_ h (by omega)
  exact ⟨b, o, rfl, hb, hc i _ (by simp [List.getElem?_map, List.getD, show i < ws.length by omega])⟩
end
theorem etfl : ET Try.prog 41 51 2 32 (.agg #[.int .i64 0, .slice none 0 0]) := ⟨Try.underlying41, info_parts (by kernel_rfl), rfl, by decide⟩
theorem etrfl : ET Try.prog 37 53 2 32 (.agg #[.int .i64 0, .slice none 0 0]) := ⟨Try.underlying37, info_parts (by kernel_rfl), rfl, by decide⟩
theorem etint : ET Try.prog 38 3 1 8 (.int .i64 0) := ⟨Try.underlying38, info_parts (by kernel_rfl), rfl, by decide⟩
theorem field_oneCell (f : Int) (A : Option Addr) (m c : Nat) : ∀ u ∈ ([.int .i64 f, .slice A m c] : List Value), u.oneCell' = true := by
  intro u hu
  simp only [List.mem_cons, List.not_mem_nil, or_false] at hu
  rcases hu with rfl | rfl <;> rfl
/-- The cells of a field whose bytes are the call's own. -/
def FlW (w : World) (base : Nat) (f : Bt.Fld) (cs : List Value) : Prop := ∃ A n c, cs = [.int .i64 f.bits, .slice A n c] ∧ OW w base A n c f.data
theorem FlW.below {w w' : World} {base : Nat} {f : Bt.Fld} {cs : List Value} (hb : Below w.heap.size w w') (h : FlW w base f cs) : FlW w' base f cs := by
  obtain ⟨A, n, c, h1, h2⟩ := h
  exact ⟨A, n, c, h1, h2.below hb⟩
theorem FlW.more {w : World} {base base' : Nat} {f : Bt.Fld} {cs : List Value} (hb : base' ≤ base) (h : FlW w base f cs) : FlW w base' f cs := by
  obtain ⟨A, n, c, h1, h2⟩ := h
  exact ⟨A, n, c, h1, h2.more hb⟩
theorem FlW.flc {w : World} {base : Nat} {f : Bt.Fld} {cs : List Value} (h : FlW w base f cs) : FlC w w.heap.size f cs := by
  obtain ⟨A, n, c, h1, h2⟩ := h
  exact ⟨A, n, c, h1, h2.rb⟩
theorem FlW.beside {w w' : World} {base base' e size m c' : Nat} {A' : Option Addr} {xs : List Value} (h' : OV w base' e size A' m c' xs) (hne : e ≠ 5) (hg : w.grownBy w' (Value.slice A' m c').ownBlock) {f : Bt.Fld} {cs : List Value} (h : FlW w base f cs) : FlW w' base f cs := by
  obtain ⟨A, n, c, h1, h2⟩ := h
  exact ⟨A, n, c, h1, h2.beside h' hne hg⟩
section
variable {H : Type} {enc : TypeId × Value → H} {w : World} {spare : Nat → Bool} {held : Bool}
theorem cells_field {fuel : Nat} {cs : List Value} {x : DataW H × List MemPlace} (h : DataW.trod enc Try.prog w 0 spare held fuel 53 cs = some x) : ∃ f, FlC w w.heap.size f cs ∧ (Lit.int .i64 f.bits).wf = true := by
  have h3 : cs.length = 2 := trod_len Try.underlying53 h (by kernel_rfl)
  match cs, h3 with
  | [a, d], _ =>
    obtain ⟨_, _, t0⟩ := trod_one Try.underlying53 h 0 3 0 a rfl (by kernel_rfl) rfl
    obtain ⟨_, _, t2⟩ := trod_one Try.underlying53 h 1 22 1 d rfl (by kernel_rfl) rfl
    obtain ⟨i, rfl, hw⟩ := cell_int Try.underlying3 t0
    obtain ⟨A, n, c, l, rfl, hr⟩ := cell_bytes Try.underlying22 Try.underlying5 (by kernel_rfl) t2
    exact ⟨⟨i, l⟩, ⟨A, n, c, rfl, hr⟩, hw⟩
theorem open_rfields {r : Reach} {b0 : Nat} {v : Value} {d : DataW H} {p : List MemPlace} (hv : Value.okWide Try.prog w r b0 37 v) (h : DataW.Trod enc Try.prog w 0 spare held 37 v d p) :
    ∃ (A : Option Addr) (n c : Nat) (fs : List Bt.Fld), v = .slice A n c ∧ RFl w w.heap.size w.heap.size A n c fs ∧ ∀ f ∈ fs, (Lit.int .i64 f.bits).wf = true := by
  obtain ⟨A, n, c, rfl⟩ := okWide_slice Try.underlying37 hv
  obtain ⟨fuel, hf⟩ := h
  obtain ⟨fs, xs, hl, h1, h2⟩ := open_rows (fun f cs => FlC w w.heap.size f cs ∧ (Lit.int .i64 f.bits).wf = true) Try.underlying37 (show Try.prog.cellsOf 53 = 2 by kernel_rfl) (by decide) (fun _ _ _ h => cells_field h) hf
  refine ⟨A, n, c, fs, rfl, ⟨xs, h1, h2.imp fun _ _ h => h.1⟩, fun f hm => ?_⟩
  obtain ⟨i, hi, rfl⟩ := List.getElem_of_mem hm
  exact (h2.2 i _ (List.getElem?_eq_getElem hi)).2
theorem open_ints {r : Reach} {b0 : Nat} {v : Value} {d : DataW H} {p : List MemPlace} (hv : Value.okWide Try.prog w r b0 38 v) (h : DataW.Trod enc Try.prog w 0 spare held 38 v d p) :
    ∃ (A : Option Addr) (n c : Nat) (ws : List Int), v = .slice A n c ∧ RI w w.heap.size A n c ws ∧ ∀ x ∈ ws, (Lit.int .i64 x).wf = true := by
  obtain ⟨A, n, c, rfl⟩ := okWide_slice Try.underlying38 hv
  obtain ⟨fuel, hf⟩ := h
  obtain ⟨ws, xs, hl, h1, h2⟩ := open_rows (fun (x : Int) cs => cs = [.int .i64 x] ∧ (Lit.int .i64 x).wf = true) Try.underlying38 (show Try.prog.cellsOf 3 = 1 by kernel_rfl) (by decide) (fun _ cs _ h => by
    have h3 : cs.length = 1 := (DataW.trod_int Try.underlying3 h).elim fun z hz => by rw [hz.1]; rfl
    match cs, h3 with
    | [a], _ =>
      obtain ⟨i, rfl, hw⟩ := cell_int Try.underlying3 h
      exact ⟨i, rfl, hw⟩) hf
  have e : xs = ws.map (Value.int .i64) := by
    apply List.ext_getElem?
    intro i
    have hx := h2.len
    rw [List.getElem?_map]
    by_cases hi : i < ws.length
    · have := (h2.2 i _ (List.getElem?_eq_getElem hi)).1
      have e0 : ((xs.drop (i * 1)).take 1)[0]? = xs[i]? := by rw [List.getElem?_take, List.getElem?_drop]; simp
      rw [this] at e0
      simp [List.getElem?_eq_getElem hi, ← e0]
    · rw [List.getElem?_eq_none (by omega), List.getElem?_eq_none (by omega)]; rfl
  subst e
  refine ⟨A, n, c, ws, rfl, h1, fun x hm => ?_⟩
  obtain ⟨i, hi, rfl⟩ := List.getElem_of_mem hm
  exact (h2.2 i _ (List.getElem?_eq_getElem hi)).2
end
end Go.Proofs.Ytecgahhdbhdplaa
