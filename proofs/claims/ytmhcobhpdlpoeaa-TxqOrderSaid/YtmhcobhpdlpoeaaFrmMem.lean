/-
  Frames in memory: an argument that is a frame, a slice of frames.
  Conditions: none.
-/
import Derived.Test.YtmhcobhpdlpoeaaFrmPure
import Derived.Test.YtmhcobhpdlpoeaaOpen
import Derived.Test.YtmhcobhpdlpoeaaProg
import Derived.Test.YtmhcobhpdlpoeaaBlk
namespace Go.Proofs.Ytmhcobhpdlpoeaa
set_option linter.unusedVariables false
set_option linter.unusedSimpArgs false
open Go.ChangeShapes Go.WideShapes Go.ChangeAt Go.RowKit
theorem alloc_three (w : World) (o o' o'' : Obj) : Below w.heap.size w (((w.alloc o).alloc o').alloc o'') := ((((Below.refl _ w).alloc (Nat.le_refl _) o).alloc (by simp) o').alloc (by simp; omega) o'')
/-- The cells of a frame. -/
def FrC (w : World) (B : Nat) (f : Can.Fr) (cs : List Value) : Prop := ∃ A n c, cs = [.int .i64 f.id, .bool f.rem, .slice A n c] ∧ RB w B A n c f.data
theorem FrC.keep {w w' : World} {B : Nat} {f : Can.Fr} {cs : List Value} (h : FrC w B f cs) (hk : ∀ p : Addr, p.block < B → w'.cell? p = w.cell? p) : FrC w' B f cs := by
  obtain ⟨A, n, c, h1, h2⟩ := h
  exact ⟨A, n, c, h1, h2.keep hk⟩
theorem FrC.below {w w' : World} {B : Nat} {f : Can.Fr} {cs : List Value} (h : FrC w B f cs) (hb : Below B w w') : FrC w' B f cs := h.keep fun _ hp => hb.cell hp
theorem FrC.more {w : World} {B B' : Nat} {f : Can.Fr} {cs : List Value} (h : FrC w B f cs) (hB : B ≤ B') : FrC w B' f cs := by
  obtain ⟨A, n, c, h1, h2⟩ := h
  exact ⟨A, n, c, h1, h2.more hB⟩
theorem FrC.len {w : World} {B : Nat} {f : Can.Fr} {cs : List Value} (h : FrC w B f cs) : cs.length = 3 := by
  obtain ⟨A, n, c, rfl, _⟩ := h
  rfl
/-- A slice of frames. -/
def RF (w : World) (B : Nat) (A : Option Addr) (n c : Nat) (fs : List Can.Fr) : Prop := ∃ xs, RV w B 3 A n c xs ∧ Rows (FrC w B) 3 fs xs
section
variable {w w' : World} {B B' n c : Nat} {A : Option Addr} {fs : List Can.Fr}
theorem RF.len (h : RF w B A n c fs) : fs.length = n := by
  obtain ⟨xs, h1, h2⟩ := h
  have := h1.len
  have := h2.len
  omega
theorem RF.lt (h : RF w B A n c fs) : n ≤ 9223372036854775807 := by
  obtain ⟨xs, h1, h2⟩ := h
  exact Nat.le_trans h1.le h1.cap
theorem RF.below (h : RF w B A n c fs) (hb : Below B w w') : RF w' B A n c fs := by
  obtain ⟨xs, h1, h2⟩ := h
  exact ⟨xs, h1.below hb, h2.imp fun _ _ hr => hr.below hb⟩
theorem RF.keep (h : RF w B A n c fs) (hk : ∀ p : Addr, p.block < B → w'.cell? p = w.cell? p) : RF w' B A n c fs := by
  obtain ⟨xs, h1, h2⟩ := h
  exact ⟨xs, h1.keep hk, h2.imp fun _ _ hr => hr.keep hk⟩
theorem RF.more (h : RF w B A n c fs) (hB : B ≤ B') : RF w B' A n c fs := by
  obtain ⟨xs, h1, h2⟩ := h
  exact ⟨xs, h1.more hB, h2.imp fun _ _ hr => hr.more hB⟩
theorem RF.drew (h : RF w B A n c fs) : RF w.drew B A n c fs := h.keep fun _ _ => rfl
theorem RF.at_ (h : RF w B A n c fs) {i : Nat} (hi : i < n) : ∃ b o A' n' c', A = some ⟨b, o, none⟩ ∧ b < B ∧ w.cell? ⟨b, o + i * 3, none⟩ = some (.int .i64 (fs.getD i Can.zero).id) ∧
    w.cell? ⟨b, o + i * 3 + 1, none⟩ = some (.bool (fs.getD i Can.zero).rem) ∧ w.cell? ⟨b, o + i * 3 + 2, none⟩ = some (.slice A' n' c') ∧ RB w B A' n' c' (fs.getD i Can.zero).data := by
  have hl := h.len
  obtain ⟨xs, h1, h2⟩ := h
  obtain ⟨b, o, rfl, hb, hc⟩ := h1.at_ (by omega)
  have hf : fs[i]? = some (fs.getD i Can.zero) := by simp [List.getD, List.getElem?_eq_getElem (show i < fs.length by omega)]
  obtain ⟨A', n', c', e, hr⟩ := h2.2 i _ hf
  have e0 : ∀ j, ((xs.drop (i * 3)).take 3)[j]? = if j < 3 then xs[i * 3 + j]? else none := fun j => by rw [List.getElem?_take, List.getElem?_drop]
  rw [e] at e0
  refine ⟨b, o, A', n', c', rfl, hb, ?_, ?_, ?_, hr⟩
  · have := hc (i * 3) _ (by have := e0 0; simpa using this.symm)
    exact this
  · have := hc (i * 3 + 1) _ (by have := e0 1; simpa using this.symm)
    rw [← Nat.add_assoc] at this
    exact this
  · have := hc (i * 3 + 2) _ (by have := e0 2; simpa using this.symm)
    rw [← Nat.add_assoc] at this
    exact this
end
section
variable {H : Type} {enc : TypeId × Value → H} {w : World} {spare : Nat → Bool} {held : Bool}
theorem cells_frame {fuel : Nat} {cs : List Value} {x : DataW H × List MemPlace} (h : DataW.trod enc Try.prog w 0 spare held fuel 29 cs = some x) : ∃ f, FrC w w.heap.size f cs ∧ (Lit.int .i64 f.id).wf = true := by
  have h3 : cs.length = 3 := trod_len Try.underlying29 h (by kernel_rfl)
  match cs, h3 with
  | [a, b, d], _ =>
    obtain ⟨_, _, t0⟩ := trod_one Try.underlying29 h 0 3 0 a rfl (by kernel_rfl) rfl
    obtain ⟨_, _, t1⟩ := trod_one Try.underlying29 h 1 4 1 b rfl (by kernel_rfl) rfl
    obtain ⟨_, _, t2⟩ := trod_one Try.underlying29 h 2 27 2 d rfl (by kernel_rfl) rfl
    obtain ⟨i, rfl, hw⟩ := cell_int Try.underlying3 t0
    obtain ⟨r, rfl⟩ := cell_bool Try.underlying4 t1
    obtain ⟨A, n, c, l, rfl, hr⟩ := cell_bytes Try.underlying27 Try.underlying5 (by kernel_rfl) t2
    exact ⟨⟨i, r, l⟩, ⟨A, n, c, rfl, hr⟩, hw⟩
theorem open_frame {r : Reach} {b0 : Nat} {v : Value} {d : DataW H} {p : List MemPlace} (hv : Value.okWide Try.prog w r b0 29 v) (h : DataW.Trod enc Try.prog w 0 spare held 29 v d p) :
    ∃ (i : Int) (r : Bool) (A : Option Addr) (n c : Nat) (l : List UInt8), v = .agg #[.int .i64 i, .bool r, .slice A n c] ∧ (Lit.int .i64 i).wf = true ∧ RB w w.heap.size A n c l := by
  obtain ⟨cs, rfl, hsz⟩ := okWide_struct Try.underlying29 hv
  obtain ⟨fuel, hf⟩ := h
  obtain ⟨f, ⟨A, n, c, e, hr⟩, hw⟩ := cells_frame hf
  have e : cs.toList = [.int .i64 f.id, .bool f.rem, .slice A n c] := by simpa [Value.cells] using e
  refine ⟨f.id, f.rem, A, n, c, f.data, ?_, hw, hr⟩
  rw [← Array.toArray_toList (xs := cs), e]
theorem open_frames {r : Reach} {b0 : Nat} {v : Value} {d : DataW H} {p : List MemPlace} (hv : Value.okWide Try.prog w r b0 22 v) (h : DataW.Trod enc Try.prog w 0 spare held 22 v d p) :
    ∃ (A : Option Addr) (n c : Nat) (fs : List Can.Fr), v = .slice A n c ∧ RF w w.heap.size A n c fs := by
  obtain ⟨A, n, c, rfl⟩ := okWide_slice Try.underlying22 hv
  obtain ⟨fuel, hf⟩ := h
  obtain ⟨fs, xs, hl, h1, h2⟩ := open_rows (FrC w w.heap.size) Try.underlying22 (show Try.prog.cellsOf 29 = 3 by kernel_rfl) (by decide) (fun _ _ _ h => (cells_frame h).imp fun _ h => h.1) hf
  exact ⟨A, n, c, fs, rfl, xs, h1, h2⟩
end
end Go.Proofs.Ytmhcobhpdlpoeaa
