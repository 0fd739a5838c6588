/-
  Tokens in memory: slices of tokens, read and of the call's own.
  Conditions: none.
-/
import Derived.Test.YtnppihlalhaldaaSeq
import Derived.Test.YtnppihlalhaldaaLexPure
import Derived.Test.YtnppihlalhaldaaLexTok
namespace Go.Proofs.Ytnppihlalhaldaa
set_option linter.unusedVariables false
set_option linter.unusedSimpArgs false
open Go.ChangeShapes Go.WideShapes Go.ChangeAt Go.RowKit
def tkL (t : Lx.Tk) : List Value := [.int .i64 t.kind, .string (T t.text), .int .i64 t.n, .int .i64 (t.pl : Int)]
/-- The cells of a token. -/
def TkR (t : Lx.Tk) (cs : List Value) : Prop := cs = tkL t
theorem ettk : ET Try.prog 23 29 4 40 (.agg #[.int .i64 0, .string ⟨#[]⟩, .int .i64 0, .int .i64 0]) := ⟨Try.underlying23, info_parts (by kernel_rfl), rfl, by decide⟩
theorem tok_oneCell (a : Int) (s : ByteArray) (b c : Int) : ∀ u ∈ ([.int .i64 a, .string s, .int .i64 b, .int .i64 c] : List Value), u.oneCell' = true := by
  intro u hu
  simp only [List.mem_cons, List.not_mem_nil, or_false] at hu
  rcases hu with rfl | rfl | rfl | rfl <;> rfl
theorem tkR_mk {k : Int} {s : List UInt8} {n p : Int} {q : Nat} (h : p = (q : Int)) : TkR ⟨k, s, n, q⟩ [.int .i64 k, .string (T s), .int .i64 n, .int .i64 p] := by subst h; rfl
/-- Tokens of the call's own. -/
def OTk (w : World) (base : Nat) (A : Option Addr) (n c : Nat) (ts : List Lx.Tk) : Prop := OS TkR w base 29 4 A n c ts
/-- Tokens that are read. -/
def RTk (w : World) (B : Nat) (A : Option Addr) (n c : Nat) (ts : List Lx.Tk) : Prop := RS TkR w B 4 A n c ts
def tkz : Lx.Tk := ⟨0, [], 0, 0⟩
section
variable {w w' : World} {B B' base n c : Nat} {A : Option Addr} {ts : List Lx.Tk}
theorem RTk.len (h : RTk w B A n c ts) : ts.length = n := RS.len h (by decide)
theorem RTk.lt (h : RTk w B A n c ts) : n ≤ 9223372036854775807 := RS.lt h
theorem RTk.below (h : RTk w B A n c ts) (hb : Below B w w') : RTk w' B A n c ts := RS.below h hb fun _ _ h => h
theorem RTk.more (h : RTk w B A n c ts) (hB : B ≤ B') : RTk w B' A n c ts := RS.more h hB fun _ _ h => h
theorem RTk.none_ : RTk w B none 0 0 [] := RS.none_
theorem OTk.none_ (w : World) (base : Nat) : OTk w base none 0 0 [] := OS.none_ _ _ _ _
theorem OTk.rs (h : OTk w base A n c ts) : RTk w w.heap.size A n c ts := OS.rs h
theorem OTk.len (h : OTk w base A n c ts) : ts.length = n := OS.len h (by decide)
theorem OTk.below (h : OTk w base A n c ts) (hb : Below w.heap.size w w') : OTk w' base A n c ts := OS.below h hb fun _ _ h => h
theorem OTk.more {base' : Nat} (h : OTk w base A n c ts) (hb : base' ≤ base) : OTk w base' A n c ts := OS.more h hb fun _ _ h => h
theorem OTk.lt (h : OTk w base A n c ts) : ∀ k, (Value.slice A n c).ownBlock = some k → base ≤ k ∧ k < w.heap.size := by
  obtain ⟨xs, h1, _⟩ := h
  exact h1.lt
theorem RTk.at_ (h : RTk w B A n c ts) {i : Nat} (hi : i < n) : ∃ b o, A = some ⟨b, o, none⟩ ∧ b < B ∧ w.cell? ⟨b, o + i * 4, none⟩ = some (.int .i64 (ts.getD i tkz).kind) ∧
    w.cell? ⟨b, o + i * 4 + 1, none⟩ = some (.string (T (ts.getD i tkz).text)) ∧ w.cell? ⟨b, o + i * 4 + 2, none⟩ = some (.int .i64 (ts.getD i tkz).n) ∧ w.cell? ⟨b, o + i * 4 + 3, none⟩ = some (.int .i64 ((ts.getD i tkz).pl : Int)) := by
  have hl := h.len
  have hf : ts[i]? = some (ts.getD i tkz) := by simp [List.getD, List.getElem?_eq_getElem (show i < ts.length by omega)]
  obtain ⟨b, o, cs, rfl, hb, rfl, hc⟩ := RS.at_ h (by decide) hf
  exact ⟨b, o, rfl, hb, hc 0 _ (by decide) rfl, hc 1 _ (by decide) rfl, hc 2 _ (by decide) rfl, hc 3 _ (by decide) rfl⟩
end
/-- The cells of a token, its place any. -/
def TkF (t : Lx.Tk) (cs : List Value) : Prop := ∃ p : Int, cs = [.int .i64 t.kind, .string (T t.text), .int .i64 t.n, .int .i64 p]
/-- Tokens that are read, their places any. -/
def RTf (w : World) (B : Nat) (A : Option Addr) (n c : Nat) (ts : List Lx.Tk) : Prop := RS TkF w B 4 A n c ts
section
variable {w w' : World} {B B' base n c : Nat} {A : Option Addr} {ts : List Lx.Tk}
theorem RTk.rf (h : RTk w B A n c ts) : RTf w B A n c ts := RS.imp h fun t cs e => ⟨(t.pl : Int), e⟩
theorem RTf.len (h : RTf w B A n c ts) : ts.length = n := RS.len h (by decide)
theorem RTf.lt (h : RTf w B A n c ts) : n ≤ 9223372036854775807 := RS.lt h
theorem RTf.below (h : RTf w B A n c ts) (hb : Below B w w') : RTf w' B A n c ts := RS.below h hb fun _ _ h => h
theorem RTf.more (h : RTf w B A n c ts) (hB : B ≤ B') : RTf w B' A n c ts := RS.more h hB fun _ _ h => h
theorem RTf.at_ (h : RTf w B A n c ts) {i : Nat} (hi : i < n) : ∃ b o p, A = some ⟨b, o, none⟩ ∧ b < B ∧ w.cell? ⟨b, o + i * 4, none⟩ = some (.int .i64 (ts.getD i tkz).kind) ∧
    w.cell? ⟨b, o + i * 4 + 1, none⟩ = some (.string (T (ts.getD i tkz).text)) ∧ w.cell? ⟨b, o + i * 4 + 2, none⟩ = some (.int .i64 (ts.getD i tkz).n) ∧ w.cell? ⟨b, o + i * 4 + 3, none⟩ = some (.int .i64 p) := by
  have hl := h.len
  have hf : ts[i]? = some (ts.getD i tkz) := by simp [List.getD, List.getElem?_eq_getElem (show i < ts.length by omega)]
  obtain ⟨b, o, cs, rfl, hb, ⟨p, rfl⟩, hc⟩ := RS.at_ h (by decide) hf
  exact ⟨b, o, p, rfl, hb, hc 0 _ (by decide) rfl, hc 1 _ (by decide) rfl, hc 2 _ (by decide) rfl, hc 3 _ (by decide) rfl⟩
/-- 'x[k:k + 1]' -/
theorem RTf.cut (h : RTf w B A n c ts) {i : Nat} (hi : i < n) {A1 : Option Addr} {c1 : Nat} (hA : ∀ b o, A = some ⟨b, o, none⟩ → A1 = some ⟨b, o + i * 4, none⟩) (hc : 1 ≤ c1) (hc2 : c1 ≤ 9223372036854775807) : RTf w B A1 1 c1 [ts.getD i tkz] := by
  have hl := h.len
  have hf : ts[i]? = some (ts.getD i tkz) := by simp [List.getD, List.getElem?_eq_getElem (show i < ts.length by omega)]
  obtain ⟨b, o, cs, rfl, hb, ⟨p, rfl⟩, hcell⟩ := RS.at_ h (by decide) hf
  obtain rfl := hA b o rfl
  refine ⟨[.int .i64 (ts.getD i tkz).kind, .string (T (ts.getD i tkz).text), .int .i64 (ts.getD i tkz).n, .int .i64 p], ⟨rfl, hc, hc2, (fun e => by cases e), fun _ => ⟨b, _, rfl, hb, fun j u hj => ?_⟩⟩, Rows.one ⟨p, rfl⟩ rfl⟩
  exact hcell j u (by have := (List.getElem?_eq_some_iff.1 hj).1; simpa using this) hj
end
/-- What a scan hands back. -/
def ScanPost (p : List Lx.Tk × Int × Nat) (w : World) (e : Ending) (w' : World) : Prop := ∃ A c, e = .returned (.tuple #[.slice A p.1.length c, .int .i64 p.2.1, .int .i64 (p.2.2 : Int)]) ∧ OTk w' w.heap.size A p.1.length c p.1 ∧ Below w.heap.size w w'
theorem scan_none {p : List Lx.Tk × Int × Nat} {w w' : World} {x y : Int} {q : Nat} (h : p = ([], x, q)) (hy : y = (q : Int)) (hb : Below w.heap.size w w') : ScanPost p w (.returned (.tuple #[.slice none 0 0, .int .i64 x, .int .i64 y])) w' := by
  subst h hy
  exact ⟨none, 0, rfl, OTk.none_ _ _, hb⟩
theorem scan_some {p : List Lx.Tk × Int × Nat} {w w' : World} {A : Option Addr} {n c : Nat} {ts : List Lx.Tk} (h : p = (ts, 0, 0)) (hn : ts.length = n) (ho : OTk w' w.heap.size A n c ts) (hb : Below w.heap.size w w') : ScanPost p w (.returned (.tuple #[.slice A n c, .int .i64 0, .int .i64 0])) w' := by
  subst h hn
  exact ⟨A, c, rfl, ho, hb⟩
namespace Lx
/-- What was read, and what is still to come. -/
def glue (ts : List Tk) (x : List Tk × Int × Nat) : List Tk × Int × Nat := if x.2.1 ≠ 0 then x else (ts ++ x.1, 0, 0)
theorem glue_end {k : Nat} {s : List UInt8} {p : Nat} (ts : List Tk) (h : s.length ≤ p) : glue ts (scanF k s p) = (ts, 0, 0) := by
  cases k with
  | zero => simp [glue, scanF]
  | succ k => simp [glue, scanF, if_pos h]
theorem glue_bad {k : Nat} {s : List UInt8} {p : Nat} {t : Tk} {x : Int} (ts : List Tk) (h : p < s.length) (hk : s.length < p + k) (ht : tok (s.drop p) = (t, x)) (hx : x ≠ 0) : glue ts (scanF k s p) = ([], x, p) := by
  obtain ⟨k, rfl⟩ : ∃ j, k = j + 1 := ⟨k - 1, by omega⟩
  rw [scanF, if_neg (by omega), ht, if_pos hx]
  simp [glue, hx]
theorem glue_step {k : Nat} {s : List UInt8} {p : Nat} {t : Tk} (ts : List Tk) (h : p < s.length) (hk : s.length < p + k) (ht : tok (s.drop p) = (t, 0)) :
    ∃ j, glue ts (scanF k s p) = glue (ts ++ [{ t with pl := p }]) (scanF j s (pos s (p + t.text.length))) ∧ s.length < pos s (p + t.text.length) + j ∧ pos s (p + t.text.length) ≤ s.length ∧ p + 1 ≤ pos s (p + t.text.length) := by
  obtain ⟨k, rfl⟩ : ∃ j, k = j + 1 := ⟨k - 1, by omega⟩
  have h1 := tok_len (s := s.drop p) (by rw [ht])
  rw [ht, List.length_drop] at h1
  dsimp only at h1
  have h2 := pos_ge s (p + t.text.length) (by omega)
  refine ⟨k, ?_, by omega, pos_le _ _, by omega⟩
  rw [scanF, if_neg (by omega), ht, if_neg (by simp)]
  dsimp only
  unfold glue
  generalize scanF k s (pos s (p + t.text.length)) = x
  obtain ⟨a, e, q⟩ := x
  dsimp only
  by_cases hx : e = 0
  · subst hx
    simp
  · rw [if_pos hx]
    dsimp only
    rw [if_pos hx, if_pos hx]
theorem scanF_ok : ∀ (k : Nat) (s : List UInt8) (p : Nat), (scanF k s p).2.1 = 0 → (scanF k s p).2.2 = 0
  | 0, _, _, _ => rfl
  | k + 1, s, p, h => by
    rw [scanF] at h ⊢
    split at h
    · rename_i h1; rw [if_pos h1]
    · rename_i h1
      rw [if_neg h1]
      split at h
      · rename_i h2; exact absurd h h2
      · rename_i h2
        rw [if_neg h2]
        split at h
        · rename_i h3; exact absurd h h3
        · rename_i h3; rw [if_neg h3]
theorem glue_nil (k : Nat) (s : List UInt8) (p : Nat) : glue [] (scanF k s p) = scanF k s p := by
  unfold glue
  split
  · rfl
  · rename_i h
    have h1 : (scanF k s p).2.1 = 0 := by simpa using h
    have h2 := scanF_ok k s p h1
    generalize scanF k s p = x at *
    obtain ⟨a, b, c⟩ := x
    dsimp only at h1 h2
    subst h1 h2
    rfl
end Lx
theorem OTk.cells {w : World} {base n c : Nat} {A : Option Addr} {ts : List Lx.Tk} (h : OTk w base A n c ts) (hn : 0 < n) : ∃ g, A = some ⟨g, 0, none⟩ ∧ base ≤ g ∧ g < w.heap.size ∧
    ∀ i, i < n → w.cell? ⟨g, i * 4, none⟩ = some (.int .i64 (ts.getD i tkz).kind) ∧ w.cell? ⟨g, i * 4 + 1, none⟩ = some (.string (T (ts.getD i tkz).text)) ∧ w.cell? ⟨g, i * 4 + 2, none⟩ = some (.int .i64 (ts.getD i tkz).n) ∧ w.cell? ⟨g, i * 4 + 3, none⟩ = some (.int .i64 ((ts.getD i tkz).pl : Int)) := by
  have hr := h.rs
  obtain ⟨xs, h1, _⟩ := h
  obtain ⟨g, rfl, hb, hg⟩ := h1.head hn
  refine ⟨g, rfl, hb, hg, fun i hi => ?_⟩
  obtain ⟨b, o, e, _, q⟩ := hr.at_ hi
  injection e with e
  injection e with e1 e2 _
  subst e1 e2
  simpa only [Nat.zero_add] using q
section
variable {H : Type} {enc : TypeId × Value → H} {w : World} {spare : Nat → Bool} {held : Bool}
theorem cells_token {fuel : Nat} {cs : List Value} {x : DataW H × List MemPlace} (h : DataW.trod enc Try.prog w 0 spare held fuel 29 cs = some x) :
    ∃ t : Lx.Tk, TkF t cs ∧ (T t.text).size ≤ maxLen := by
  have h3 : cs.length = 4 := trod_len Try.underlying29 h (by kernel_rfl)
  match cs, h3 with
  | [a, b, c, d], _ =>
    obtain ⟨_, _, t0⟩ := trod_one Try.underlying29 h 0 3 0 a rfl (by kernel_rfl) rfl
    obtain ⟨_, _, t1⟩ := trod_one Try.underlying29 h 1 9 1 b rfl (by kernel_rfl) rfl
    obtain ⟨_, _, t2⟩ := trod_one Try.underlying29 h 2 2 2 c rfl (by kernel_rfl) rfl
    obtain ⟨_, _, t3⟩ := trod_one Try.underlying29 h 3 3 3 d rfl (by kernel_rfl) rfl
    obtain ⟨i, rfl, _⟩ := cell_int Try.underlying3 t0
    obtain ⟨s, rfl, hs⟩ := cell_string Try.underlying9 t1
    obtain ⟨j, rfl, _⟩ := cell_int Try.underlying2 t2
    obtain ⟨k, rfl, _⟩ := cell_int Try.underlying3 t3
    obtain ⟨l, rfl⟩ := T_of s
    exact ⟨⟨i, l, j, 0⟩, ⟨k, rfl⟩, hs⟩
theorem open_tokens {r : Reach} {b0 : Nat} {v : Value} {d : DataW H} {p : List MemPlace} (hv : Value.okWide Try.prog w r b0 23 v) (h : DataW.Trod enc Try.prog w 0 spare held 23 v d p) :
    ∃ (A : Option Addr) (n c : Nat) (ts : List Lx.Tk), v = .slice A n c ∧ RTf w w.heap.size A n c ts ∧ ∀ t ∈ ts, t.text.length ≤ 9223372036854775807 := by
  obtain ⟨A, n, c, rfl⟩ := okWide_slice Try.underlying23 hv
  obtain ⟨fuel, hf⟩ := h
  obtain ⟨ts, xs, hl, h1, h2⟩ := open_rows (fun t cs => TkF t cs ∧ (T t.text).size ≤ maxLen) Try.underlying23 (show Try.prog.cellsOf 29 = 4 by kernel_rfl) (by decide) (fun _ _ _ h => cells_token h) hf
  refine ⟨A, n, c, ts, rfl, ⟨xs, h1, h2.imp fun _ _ h => h.1⟩, fun t hm => ?_⟩
  obtain ⟨i, hi, rfl⟩ := List.getElem_of_mem hm
  have := (h2.2 i _ (List.getElem?_eq_getElem hi)).2
  rw [T_size] at this
  simpa [maxLen] using this
end
end Go.Proofs.Ytnppihlalhaldaa
