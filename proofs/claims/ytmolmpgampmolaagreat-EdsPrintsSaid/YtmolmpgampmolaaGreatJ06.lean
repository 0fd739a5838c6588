/-
  Texts joined: LexTok, LexMem, Last, Foot.
  Conditions: none.
-/
import Derived.Test.YtmolmpgampmolaaGreatJ02
import Derived.Test.YtmolmpgampmolaaGreatJ03
import Derived.Test.YtmolmpgampmolaaGreatJ04
import Derived.Test.YtmolmpgampmolaaGreatJ05
/-
  Walks: quoted, hexed, number of package lex.
  Conditions: none.
-/
namespace Go.Proofs.YtmolmpgampmolaaGreat
set_option linter.unusedVariables false
set_option linter.unusedSimpArgs false
open Go.RowKit
def tkV (k : Int) (s : List UInt8) (n p : Int) : Value := .agg #[.int .i64 k, .string (T s), .int .i64 n, .int .i64 p]
def tk0C : Array Value := #[.int .i64 0, .string ⟨#[]⟩, .int .i64 0, .int .i64 0]
/-- A token, and whether it is one. -/
def FPost (v : Value) (b : Bool) (w : World) (e : Ending) (w' : World) : Prop := e = .returned (.tuple #[v, .bool b]) ∧ Below w.heap.size w w'
theorem below_set4 {B g : Nat} {w w' : World} (h : Below B w w') (hg : B ≤ g) (i j k l : Nat) (a b c d : Value) : Below B w ((((w'.setCell ⟨g, i, none⟩ a).setCell ⟨g, j, none⟩ b).setCell ⟨g, k, none⟩ c).setCell ⟨g, l, none⟩ d) :=
  (below_set3 h hg i j k a b c).setCell (p := ⟨g, l, none⟩) hg d
def quoV (s : List UInt8) : Value := match Lx.qlen false s.tail with | some k => tkV 4 (s.take (k + 1)) 0 0 | none => tkV 0 [] 0 0
theorem quo_more {r : List UInt8} {m m' : Bool} {k k' : Nat} {l l' : List UInt8} (h : Lx.qlen false r = (Lx.qlen m l).map (· + k)) (e : Lx.qlen m l = (Lx.qlen m' l').map (· + 1)) (hk : k' = k + 1) : Lx.qlen false r = (Lx.qlen m' l').map (· + k') := by
  rw [h, e, Option.map_map]
  congr 1
  funext x
  simp only [Function.comp]
  omega
set_option maxRecDepth 100000 in
set_option maxHeartbeats 2000000 in
theorem quoted_any (s : List UInt8) (w : World) (h1 : 1 ≤ s.length) (hs : s.length ≤ 1000000) :
    Calls Tryz.prog 94 #[.string (T s)] w (FPost (quoV s) (Lx.qlen false s.tail).isSome w) := by
  have hT := T_size s
  have b0 := alloc_one w (.cells tk0C 56)
  have K0 := Blk.new w 56 tk0C
  unfold tk0C at b0 K0
  have F0 := K0.four
  go_enter Tryz.func94, Tryz.ntmps94
  go_wp2_with fail
  go_loopw [4, 5] (fun m v wr => ∃ (b : Bool) (j : Nat), 1 ≤ j ∧ j ≤ s.length ∧ m = .bool b ∧ v = .int .i64 j ∧ wr = w.alloc (.cells #[.int .i64 0, .string ⟨#[]⟩, .int .i64 0, .int .i64 0] 56) ∧ Hid (Lx.qlen false s.tail = (Lx.qlen b (s.drop j)).map (· + (j - 1)))) (fun _ v _ => s.length - (intOf v).toNat)
  case atStart => exact ⟨false, 1, by omega, by omega, rfl, rfl, rfl, Lib.hid (by rw [List.drop_one]; simp)⟩
  case round =>
    obtain ⟨b, j, hj1, hj, rfl, rfl, rfl, hq⟩ := hrel
    by_cases hlt : j < s.length
    · have hd : s.drop j = s.getD j 0 :: s.drop (j + 1) := by
        rw [List.drop_eq_getElem_cons hlt, List.getD_eq_getElem?_getD, List.getElem?_eq_getElem hlt]
        rfl
      have hat := fun w => run_T_at s .i64 j j rfl hlt w
      have hq' := hq.out
      rw [hd] at hq'
      generalize s.getD j 0 = c at *
      cases b with
      | true =>
        have HQ := Lib.hid (quo_more hq' (m' := false) (l' := s.drop (j + 1)) (k' := j + 1 - 1) rfl (by omega))
        clear hq' hd
        go_wp2_with fail
        go_roundw
        case rel => exact ⟨false, j + 1, by omega, by omega, rfl, by go_num, (by first | rfl | trivial), HQ⟩
        case measure => simp [intOf] <;> omega
      | false =>
        by_cases hc : c = 92
        · subst hc
          have HQ := Lib.hid (quo_more hq' (m' := true) (l' := s.drop (j + 1)) (k' := j + 1 - 1) rfl (by omega))
          clear hq' hd
          go_wp2_with fail
          go_roundw
          case rel => exact ⟨true, j + 1, by omega, by omega, rfl, by go_num, (by first | rfl | trivial), HQ⟩
          case measure => simp [intOf] <;> omega
        · have hc1 := byte_ne (k := 92) hc rfl
          by_cases hc2 : c = 34
          · subst hc2
            have hcut := fun w => run_T_head s .i64 ((j : Int) + 1) (j + 1) (by omega) (by omega) w
            have hv : quoV s = tkV 4 (s.take (j + 1)) 0 0 ∧ (Lx.qlen false s.tail).isSome = true := by
              rw [Lx.qlen, if_neg (by decide), if_pos rfl] at hq'
              unfold quoV
              rw [hq']
              simp only [Option.map_some, Option.isSome_some, and_true]
              rw [show 1 + (j - 1) + 1 = j + 1 by omega]
            have HV := Lib.hid hv
            clear hq' hd hv hc hc1
            go_wp2_with fail
            exact bodyPost_ret (v := .tuple #[tkV 4 (s.take (j + 1)) 0 0, .bool true]) (by simp [results, Tryz.results94, go_sem, tkV, show T [] = (⟨#[]⟩ : ByteArray) from rfl]) rfl ⟨by rw [HV.out.1, HV.out.2], alloc_one _ _⟩
          · have hc3 := byte_ne (k := 34) hc2 rfl
            have HQ := Lib.hid (quo_more hq' (m' := false) (l' := s.drop (j + 1)) (k' := j + 1 - 1) (by rw [Lx.qlen, if_neg hc, if_neg hc2]) (by omega))
            clear hq' hd hc hc2
            go_wp2_with fail
            go_roundw
            case rel => exact ⟨false, j + 1, by omega, by omega, rfl, by go_num, (by first | rfl | trivial), HQ⟩
            case measure => simp [intOf] <;> omega
    · obtain rfl : j = s.length := by omega
      have hv : quoV s = tkV 0 [] 0 0 ∧ (Lx.qlen false s.tail).isSome = false := by
        have hq' := hq.out
        rw [List.drop_length, show Lx.qlen b [] = none by cases b <;> rfl] at hq'
        unfold quoV
        rw [hq']
        exact ⟨rfl, rfl⟩
      have HV := Lib.hid hv
      clear hv
      go_wp2_with fail
      exact bodyPost_ret (v := .tuple #[tkV 0 [] 0 0, .bool false]) (by simp [results, Tryz.results94, go_sem, tkV, show T [] = (⟨#[]⟩ : ByteArray) from rfl]) rfl ⟨by rw [HV.out.1, HV.out.2], alloc_one _ _⟩
end Go.Proofs.YtmolmpgampmolaaGreat
/-
  Tokens in memory: slices of tokens, read and of the call's own.
  Conditions: none.
-/
namespace Go.Proofs.YtmolmpgampmolaaGreat
set_option linter.unusedVariables false
set_option linter.unusedSimpArgs false
open Go.ChangeShapes Go.WideShapes Go.ChangeAt Go.RowKit
def tkL (t : Lx.Tk) : List Value := [.int .i64 t.kind, .string (T t.text), .int .i64 t.n, .int .i64 (t.pl : Int)]
/-- The cells of a token. -/
def TkR (t : Lx.Tk) (cs : List Value) : Prop := cs = tkL t
theorem ettk : ET Tryz.prog 39 56 4 40 (.agg #[.int .i64 0, .string ⟨#[]⟩, .int .i64 0, .int .i64 0]) := ⟨Tryz.underlying39, info_parts (by kernel_rfl), rfl, by decide⟩
theorem tok_oneCell (a : Int) (s : ByteArray) (b c : Int) : ∀ u ∈ ([.int .i64 a, .string s, .int .i64 b, .int .i64 c] : List Value), u.oneCell' = true := by
  intro u hu
  simp only [List.mem_cons, List.not_mem_nil, or_false] at hu
  rcases hu with rfl | rfl | rfl | rfl <;> rfl
theorem tkR_mk {k : Int} {s : List UInt8} {n p : Int} {q : Nat} (h : p = (q : Int)) : TkR ⟨k, s, n, q⟩ [.int .i64 k, .string (T s), .int .i64 n, .int .i64 p] := by subst h; rfl
/-- Tokens of the call's own. -/
def OTk (w : World) (base : Nat) (A : Option Addr) (n c : Nat) (ts : List Lx.Tk) : Prop := OS TkR w base 56 4 A n c ts
/-- Tokens that are read. -/
def RTk (w : World) (B : Nat) (A : Option Addr) (n c : Nat) (ts : List Lx.Tk) : Prop := RS TkR w B 4 A n c ts
def tkz : Lx.Tk := ⟨0, [], 0, 0⟩
section
variable {w w' : World} {B B' base n c : Nat} {A : Option Addr} {ts : List Lx.Tk}
theorem RTk.len (h : RTk w B A n c ts) : ts.length = n := RS.len h (by decide)
theorem RTk.lt (h : RTk w B A n c ts) : n ≤ 9223372036854775807 := RS.lt h
theorem RTk.below (h : RTk w B A n c ts) (hb : Below B w w') : RTk w' B A n c ts := RS.below h hb fun _ _ h => h
theorem RTk.more (h : RTk w B A n c ts) (hB : B ≤ B') : RTk w B' A n c ts := RS.more h hB fun _ _ h => h
theorem RTk.none_ : RTk w B none 0 0 [] := RS.none_
theorem OTk.none_ (w : World) (base : Nat) : OTk w base none 0 0 [] := OS.none_ _ _ _ _
theorem OTk.rs (h : OTk w base A n c ts) : RTk w w.heap.size A n c ts := OS.rs h
theorem OTk.len (h : OTk w base A n c ts) : ts.length = n := OS.len h (by decide)
theorem OTk.below (h : OTk w base A n c ts) (hb : Below w.heap.size w w') : OTk w' base A n c ts := OS.below h hb fun _ _ h => h
theorem OTk.more {base' : Nat} (h : OTk w base A n c ts) (hb : base' ≤ base) : OTk w base' A n c ts := OS.more h hb fun _ _ h => h
theorem OTk.lt (h : OTk w base A n c ts) : ∀ k, (Value.slice A n c).ownBlock = some k → base ≤ k ∧ k < w.heap.size := by
  obtain ⟨xs, h1, _⟩ := h
  exact h1.lt
theorem RTk.at_ (h : RTk w B A n c ts) {i : Nat} (hi : i < n) : ∃ b o, A = some ⟨b, o, none⟩ ∧ b < B ∧ w.cell? ⟨b, o + i * 4, none⟩ = some (.int .i64 (ts.getD i tkz).kind) ∧
    w.cell? ⟨b, o + i * 4 + 1, none⟩ = some (.string (T (ts.getD i tkz).text)) ∧ w.cell? ⟨b, o + i * 4 + 2, none⟩ = some (.int .i64 (ts.getD i tkz).n) ∧ w.cell? ⟨b, o + i * 4 + 3, none⟩ = some (.int .i64 ((ts.getD i tkz).pl : Int)) := by
  have hl := h.len
  have hf : ts[i]? = some (ts.getD i tkz) := by simp [List.getD, List.getElem?_eq_getElem (show i < ts.length by omega)]
  obtain ⟨b, o, cs, rfl, hb, rfl, hc⟩ := RS.at_ h (by decide) hf
  exact ⟨b, o, rfl, hb, hc 0 _ (by decide) rfl, hc 1 _ (by decide) rfl, hc 2 _ (by decide) rfl, hc 3 _ (by decide) rfl⟩
end
/-- The cells of a token, its place any. -/
def TkF (t : Lx.Tk) (cs : List Value) : Prop := ∃ p : Int, cs = [.int .i64 t.kind, .string (T t.text), .int .i64 t.n, .int .i64 p]
/-- Tokens that are read, their places any. -/
def RTf (w : World) (B : Nat) (A : Option Addr) (n c : Nat) (ts : List Lx.Tk) : Prop := RS TkF w B 4 A n c ts
section
variable {w w' : World} {B B' base n c : Nat} {A : Option Addr} {ts : List Lx.Tk}
theorem RTk.rf (h : RTk w B A n c ts) : RTf w B A n c ts := RS.imp h fun t cs e => ⟨(t.pl : Int), e⟩
theorem RTf.len (h : RTf w B A n c ts) : ts.length = n := RS.len h (by decide)
theorem RTf.lt (h : RTf w B A n c ts) : n ≤ 9223372036854775807 := RS.lt h
theorem RTf.below (h : RTf w B A n c ts) (hb : Below B w w') : RTf w' B A n c ts := RS.below h hb fun _ _ h => h
theorem RTf.more (h : RTf w B A n c ts) (hB : B ≤ B') : RTf w B' A n c ts := RS.more h hB fun _ _ h => h
theorem RTf.at_ (h : RTf w B A n c ts) {i : Nat} (hi : i < n) : ∃ b o p, A = some ⟨b, o, none⟩ ∧ b < B ∧ w.cell? ⟨b, o + i * 4, none⟩ = some (.int .i64 (ts.getD i tkz).kind) ∧
    w.cell? ⟨b, o + i * 4 + 1, none⟩ = some (.string (T (ts.getD i tkz).text)) ∧ w.cell? ⟨b, o + i * 4 + 2, none⟩ = some (.int .i64 (ts.getD i tkz).n) ∧ w.cell? ⟨b, o + i * 4 + 3, none⟩ = some (.int .i64 p) := by
  have hl := h.len
  have hf : ts[i]? = some (ts.getD i tkz) := by simp [List.getD, List.getElem?_eq_getElem (show i < ts.length by omega)]
  obtain ⟨b, o, cs, rfl, hb, ⟨p, rfl⟩, hc⟩ := RS.at_ h (by decide) hf
  exact ⟨b, o, p, rfl, hb, hc 0 _ (by decide) rfl, hc 1 _ (by decide) rfl, hc 2 _ (by decide) rfl, hc 3 _ (by decide) rfl⟩
/-- 'x[k:k + 1]' -/
theorem RTf.cut (h : RTf w B A n c ts) {i : Nat} (hi : i < n) {A1 : Option Addr} {c1 : Nat} (hA : ∀ b o, A = some ⟨b, o, none⟩ → A1 = some ⟨b, o + i * 4, none⟩) (hc : 1 ≤ c1) (hc2 : c1 ≤ 9223372036854775807) : RTf w B A1 1 c1 [ts.getD i tkz] := by
  have hl := h.len
  have hf : ts[i]? = some (ts.getD i tkz) := by simp [List.getD, List.getElem?_eq_getElem (show i < ts.length by omega)]
  obtain ⟨b, o, cs, rfl, hb, ⟨p, rfl⟩, hcell⟩ := RS.at_ h (by decide) hf
  obtain rfl := hA b o rfl
  refine ⟨[.int .i64 (ts.getD i tkz).kind, .string (T (ts.getD i tkz).text), .int .i64 (ts.getD i tkz).n, .int .i64 p], ⟨rfl, hc, hc2, (fun e => by cases e), fun _ => ⟨b, _, rfl, hb, fun j u hj => ?_⟩⟩, Rows.one ⟨p, rfl⟩ rfl⟩
  exact hcell j u (by have := (List.getElem?_eq_some_iff.1 hj).1; simpa using this) hj
end
/-- What a scan hands back. -/
def ScanPost (p : List Lx.Tk × Int × Nat) (w : World) (e : Ending) (w' : World) : Prop := ∃ A c, e = .returned (.tuple #[.slice A p.1.length c, .int .i64 p.2.1, .int .i64 (p.2.2 : Int)]) ∧ OTk w' w.heap.size A p.1.length c p.1 ∧ Below w.heap.size w w'
theorem scan_none {p : List Lx.Tk × Int × Nat} {w w' : World} {x y : Int} {q : Nat} (h : p = ([], x, q)) (hy : y = (q : Int)) (hb : Below w.heap.size w w') : ScanPost p w (.returned (.tuple #[.slice none 0 0, .int .i64 x, .int .i64 y])) w' := by
  subst h hy
  exact ⟨none, 0, rfl, OTk.none_ _ _, hb⟩
theorem scan_some {p : List Lx.Tk × Int × Nat} {w w' : World} {A : Option Addr} {n c : Nat} {ts : List Lx.Tk} (h : p = (ts, 0, 0)) (hn : ts.length = n) (ho : OTk w' w.heap.size A n c ts) (hb : Below w.heap.size w w') : ScanPost p w (.returned (.tuple #[.slice A n c, .int .i64 0, .int .i64 0])) w' := by
  subst h hn
  exact ⟨A, c, rfl, ho, hb⟩
namespace Lx
/-- What was read, and what is still to come. -/
def glue (ts : List Tk) (x : List Tk × Int × Nat) : List Tk × Int × Nat := if x.2.1 ≠ 0 then x else (ts ++ x.1, 0, 0)
theorem glue_end {k : Nat} {s : List UInt8} {p : Nat} (ts : List Tk) (h : s.length ≤ p) : glue ts (scanF k s p) = (ts, 0, 0) := by
  cases k with
  | zero => simp [glue, scanF]
  | succ k => simp [glue, scanF, if_pos h]
theorem glue_bad {k : Nat} {s : List UInt8} {p : Nat} {t : Tk} {x : Int} (ts : List Tk) (h : p < s.length) (hk : s.length < p + k) (ht : tok (s.drop p) = (t, x)) (hx : x ≠ 0) : glue ts (scanF k s p) = ([], x, p) := by
  obtain ⟨k, rfl⟩ : ∃ j, k = j + 1 := ⟨k - 1, by omega⟩
  rw [scanF, if_neg (by omega), ht, if_pos hx]
  simp [glue, hx]
theorem glue_step {k : Nat} {s : List UInt8} {p : Nat} {t : Tk} (ts : List Tk) (h : p < s.length) (hk : s.length < p + k) (ht : tok (s.drop p) = (t, 0)) :
    ∃ j, glue ts (scanF k s p) = glue (ts ++ [{ t with pl := p }]) (scanF j s (pos s (p + t.text.length))) ∧ s.length < pos s (p + t.text.length) + j ∧ pos s (p + t.text.length) ≤ s.length ∧ p + 1 ≤ pos s (p + t.text.length) := by
  obtain ⟨k, rfl⟩ : ∃ j, k = j + 1 := ⟨k - 1, by omega⟩
  have h1 := tok_len (s := s.drop p) (by rw [ht])
  rw [ht, List.length_drop] at h1
  dsimp only at h1
  have h2 := pos_ge s (p + t.text.length) (by omega)
  refine ⟨k, ?_, by omega, pos_le _ _, by omega⟩
  rw [scanF, if_neg (by omega), ht, if_neg (by simp)]
  dsimp only
  unfold glue
  generalize scanF k s (pos s (p + t.text.length)) = x
  obtain ⟨a, e, q⟩ := x
  dsimp only
  by_cases hx : e = 0
  · subst hx
    simp
  · rw [if_pos hx]
    dsimp only
    rw [if_pos hx, if_pos hx]
theorem scanF_ok : ∀ (k : Nat) (s : List UInt8) (p : Nat), (scanF k s p).2.1 = 0 → (scanF k s p).2.2 = 0
  | 0, _, _, _ => rfl
  | k + 1, s, p, h => by
    rw [scanF] at h ⊢
    split at h
    · rename_i h1; rw [if_pos h1]
    · rename_i h1
      rw [if_neg h1]
      split at h
      · rename_i h2; exact absurd h h2
      · rename_i h2
        rw [if_neg h2]
        split at h
        · rename_i h3; exact absurd h h3
        · rename_i h3; rw [if_neg h3]
theorem glue_nil (k : Nat) (s : List UInt8) (p : Nat) : glue [] (scanF k s p) = scanF k s p := by
  unfold glue
  split
  · rfl
  · rename_i h
    have h1 : (scanF k s p).2.1 = 0 := by simpa using h
    have h2 := scanF_ok k s p h1
    generalize scanF k s p = x at *
    obtain ⟨a, b, c⟩ := x
    dsimp only at h1 h2
    subst h1 h2
    rfl
end Lx
theorem OTk.cells {w : World} {base n c : Nat} {A : Option Addr} {ts : List Lx.Tk} (h : OTk w base A n c ts) (hn : 0 < n) : ∃ g, A = some ⟨g, 0, none⟩ ∧ base ≤ g ∧ g < w.heap.size ∧
    ∀ i, i < n → w.cell? ⟨g, i * 4, none⟩ = some (.int .i64 (ts.getD i tkz).kind) ∧ w.cell? ⟨g, i * 4 + 1, none⟩ = some (.string (T (ts.getD i tkz).text)) ∧ w.cell? ⟨g, i * 4 + 2, none⟩ = some (.int .i64 (ts.getD i tkz).n) ∧ w.cell? ⟨g, i * 4 + 3, none⟩ = some (.int .i64 ((ts.getD i tkz).pl : Int)) := by
  have hr := h.rs
  obtain ⟨xs, h1, _⟩ := h
  obtain ⟨g, rfl, hb, hg⟩ := h1.head hn
  refine ⟨g, rfl, hb, hg, fun i hi => ?_⟩
  obtain ⟨b, o, e, _, q⟩ := hr.at_ hi
  injection e with e
  injection e with e1 e2 _
  subst e1 e2
  simpa only [Nat.zero_add] using q
section
variable {H : Type} {enc : TypeId × Value → H} {w : World} {spare : Nat → Bool} {held : Bool}
theorem cells_token {fuel : Nat} {cs : List Value} {x : DataW H × List MemPlace} (h : DataW.trod enc Tryz.prog w 0 spare held fuel 56 cs = some x) :
    ∃ t : Lx.Tk, TkF t cs ∧ (T t.text).size ≤ maxLen := by
  have h3 : cs.length = 4 := trod_len Tryz.underlying56 h (by kernel_rfl)
  match cs, h3 with
  | [a, b, c, d], _ =>
    obtain ⟨_, _, t0⟩ := trod_one Tryz.underlying56 h 0 3 0 a rfl (by kernel_rfl) rfl
    obtain ⟨_, _, t1⟩ := trod_one Tryz.underlying56 h 1 9 1 b rfl (by kernel_rfl) rfl
    obtain ⟨_, _, t2⟩ := trod_one Tryz.underlying56 h 2 2 2 c rfl (by kernel_rfl) rfl
    obtain ⟨_, _, t3⟩ := trod_one Tryz.underlying56 h 3 3 3 d rfl (by kernel_rfl) rfl
    obtain ⟨i, rfl, _⟩ := cell_int Tryz.underlying3 t0
    obtain ⟨s, rfl, hs⟩ := cell_string Tryz.underlying9 t1
    obtain ⟨j, rfl, _⟩ := cell_int Tryz.underlying2 t2
    obtain ⟨k, rfl, _⟩ := cell_int Tryz.underlying3 t3
    obtain ⟨l, rfl⟩ := T_of s
    exact ⟨⟨i, l, j, 0⟩, ⟨k, rfl⟩, hs⟩
set_option maxRecDepth 100000 in
theorem open_tokens {r : Reach} {b0 : Nat} {v : Value} {d : DataW H} {p : List MemPlace} (hv : Value.okWide Tryz.prog w r b0 39 v) (h : DataW.Trod enc Tryz.prog w 0 spare held 39 v d p) :
    ∃ (A : Option Addr) (n c : Nat) (ts : List Lx.Tk), v = .slice A n c ∧ RTf w w.heap.size A n c ts ∧ ∀ t ∈ ts, t.text.length ≤ 9223372036854775807 := by
  obtain ⟨A, n, c, rfl⟩ := okWide_slice Tryz.underlying39 hv
  obtain ⟨fuel, hf⟩ := h
  obtain ⟨ts, xs, hl, h1, h2⟩ := open_rows (fun t cs => TkF t cs ∧ (T t.text).size ≤ maxLen) Tryz.underlying39 (show Tryz.prog.cellsOf 56 = 4 by kernel_rfl) (by decide) (fun _ _ _ h => cells_token h) hf
  refine ⟨A, n, c, ts, rfl, ⟨xs, h1, h2.imp fun _ _ h => h.1⟩, fun t hm => ?_⟩
  obtain ⟨i, hi, rfl⟩ := List.getElem_of_mem hm
  have := (h2.2 i _ (List.getElem?_eq_getElem hi)).2
  rw [T_size] at this
  simpa [maxLen] using this
end
end Go.Proofs.YtmolmpgampmolaaGreat
/-
  A region that draws its order, whose last operation writes to what the region reads: behind operation t the class of worlds is not asked for.
  Conditions: none.
-/
namespace Go.Proofs.YtmolmpgampmolaaGreat
set_option linter.unusedVariables false
set_option linter.unusedSimpArgs false
open Go.RowKit Go.Sort
section
variable {P : Program} {ops : Array Oper} {Q : Exit → Act → World → Prop} {md : Region.Mode} {S S' : World → Prop} {t : Nat}
def wpAnyL (P : Program) (md : Region.Mode) (ops : Array Oper) (Q : Exit → Act → World → Prop) (t : Nat) (S : World → Prop) : Nat → Array Bool → Act → World → Prop
  | 0, listed, a, w => Region.ready md ops listed = [] ∧ Q .normal a w
  | fuel + 1, listed, a, w =>
    (Region.ready md ops listed = [] → Q .normal a w) ∧
    ∀ i ∈ Region.ready md ops listed, wpOp P ops Q i (fun a' w' => (i = t ∨ S w') ∧ wpAnyL P md ops Q t S fuel (listed.setIfInBounds i true) a' w') a w
theorem wpAny_of_L : ∀ (fuel : Nat) (listed : Array Bool) (a : Act) (w : World), wpAnyL P md ops Q t S fuel listed a w → wpAny P md ops Q fuel listed a w
  | 0, _, _, _, h => h
  | fuel + 1, _, _, _, h => ⟨h.1, fun i hi => wpOp_mono (fun a' w' h' => wpAny_of_L fuel _ a' w' h'.2) (h.2 i hi)⟩
theorem heldL_mono (hS : ∀ w, S' w → S w) : ∀ (fuel : Nat) (listed : Array Bool) (a : Act) (w : World), wpAnyL P md ops Q t S' fuel listed a w → wpAnyL P md ops Q t S fuel listed a w
  | 0, _, _, _, h => h
  | fuel + 1, _, _, _, h => ⟨h.1, fun i hi => wpOp_mono (fun a' w' h' => ⟨h'.1.imp id (hS _), heldL_mono hS fuel _ a' w' h'.2⟩) (h.2 i hi)⟩
/-- Operation t waits for operation i. -/
def waits (md : Region.Mode) (ops : Array Oper) (t i : Nat) : Bool := match ops[t]? with
  | some o => o.after.any fun e => Region.binds md e && e.on == i
  | none => true
theorem waits_spec {i : Nat} {o : Oper} (h : waits md ops t i = true) (ho : ops[t]? = some o) : ∃ e ∈ o.after, Region.binds md e = true ∧ e.on = i := by
  unfold waits at h
  rw [ho] at h
  simp only [Array.any_eq_true', Bool.and_eq_true, beq_iff_eq] at h
  obtain ⟨e, he, h1, h2⟩ := h
  exact ⟨e, he, h1, h2⟩
theorem wpAnyL_first {i : Nat} {oi : Oper} {v : Value} (hi : ops[i]? = some oi) (hT : waits md ops t i = true) (hsel : ∀ (j : Nat) (o : Oper) cs b, ops[j]? = some o → o.op ≠ .select cs b)
    (hQ : ∀ c a w, Q (.panic c) (a.put oi.dst v) w → Q (.panic c) a w) :
    ∀ (fuel : Nat) (listed : Array Bool) (a : Act) (w : World),
      (∀ j oj, ops[j]? = some oj → j ≠ i → listed.getD j true = false → (∀ e ∈ oj.after, Region.binds md e = true → e.on ≠ i) → oi.apart ops oj = true) →
      i ∈ Region.ready md ops listed → YieldsIf P ops S oi v a → S w →
      wpAnyL P md ops Q t S fuel (listed.setIfInBounds i true) (a.put oi.dst v) w → wpAnyL P md ops Q t S (fuel + 1) listed a w := by
  intro fuel
  induction fuel with
  | zero =>
    intro listed a w _ hr hy hS H
    refine ⟨fun h => (by rw [h] at hr; cases hr), fun j hj => ?_⟩
    by_cases hji : j = i
    · subst hji; exact hy.wpOp hi hS ⟨.inr hS, H⟩
    · have := ready_mono hj hji
      rw [H.1] at this
      cases this
  | succ fuel ih =>
    intro listed a w hfree hr hy hS H
    refine ⟨fun h => (by rw [h] at hr; cases hr), fun j hj => ?_⟩
    by_cases hji : j = i
    · subst hji; exact hy.wpOp hi hS ⟨.inr hS, H⟩
    · have h1 := H.2 j (ready_mono hj hji)
      obtain ⟨hjun, oj, hoj, hall⟩ := mem_ready.1 hj
      have hnot : ∀ e ∈ oj.after, Region.binds md e = true → e.on ≠ i := fun e he hb heq => by
        have h1 := hall e he hb
        have h0 := (mem_ready.1 hr).1
        rw [heq] at h1
        rcases Nat.lt_or_ge i listed.size with h' | h'
        · simp [h'] at h0 h1; rw [h0] at h1; cases h1
        · simp [Array.getElem?_eq_none h'] at h1
      have hjt : j ≠ t := fun e => by
        subst e
        obtain ⟨e, he, hb, heq⟩ := waits_spec hT hoj
        exact hnot e he hb heq
      have h2 := wpOp_putIf hoj (hfree j oj hoj hji hjun hnot) (fun cs b => hsel i oi cs b hi) (fun cs b => hsel j oj cs b hoj) hQ hy h1
      have hfree' : ∀ k ok, ops[k]? = some ok → k ≠ i → (listed.setIfInBounds j true).getD k true = false →
          (∀ e ∈ ok.after, Region.binds md e = true → e.on ≠ i) → oi.apart ops ok = true := fun k ok hk hki hun hno => by
        refine hfree k ok hk hki ?_ hno
        by_cases hjk : j = k
        · subst hjk; exact hjun
        · rw [getD_set_ne true hjk] at hun; exact hun
      refine wpOp_mono (fun a' w' h3 => ?_) h2
      have hS' : S w' := h3.2.1.resolve_left hjt
      refine ⟨.inr hS', ih (listed.setIfInBounds j true) a' w' hfree' (ready_mono hr (Ne.symm hji)) h3.1 hS' ?_⟩
      rw [Array.setIfInBounds_comm _ _ hji]
      exact h3.2.2
def okPhaseL (md : Region.Mode) (l : List Oper) (t : Nat) : Array Bool → List Nat → Bool
  | _, [] => true
  | listed, i :: σ => decide (i < l.length) && waits md l.toArray t i && (Region.ready md l.toArray listed).contains i && Region.free md l.toArray listed i && calm (nth l i) && okPhaseL md l t (listed.setIfInBounds i true) σ
theorem phaseL_of {l : List Oper} (hsel : Region.noSelect l.toArray = true) (hQ : ∀ c a d v w, Q (.panic c) (Act.put a d v) w → Q (.panic c) a w) (fuel : Nat) (w : World) (hS : S w) :
    ∀ (σ : List Nat) {n : Nat} (listed : Array Bool) (a : Act), n = σ.length + fuel → okPhaseL md l t listed σ = true →
      wpQuiet P l.toArray S (fun a' => wpAnyL P md l.toArray Q t S fuel (after listed σ) a' w) (picks l σ) a → wpAnyL P md l.toArray Q t S n listed a w
  | [], n, listed, a, hn, _, h => by
    obtain rfl : n = fuel := by simpa using hn
    exact h
  | i :: σ, n, listed, a, hn, hok, h => by
    obtain rfl : n = (σ.length + fuel) + 1 := by simp at hn; omega
    simp only [okPhaseL, Bool.and_eq_true, decide_eq_true_eq] at hok
    obtain ⟨⟨⟨⟨⟨hi, hT⟩, hr⟩, hf⟩, hc⟩, hrest⟩ := hok
    have ho : l.toArray[i]? = some (nth l i) := by rw [List.getElem?_toArray]; exact nth_some l i hi
    simp only [picks, wpQuiet] at h
    have step : ∀ v, YieldsIf P l.toArray S (nth l i) v a → wpQuiet P l.toArray S (fun a' => wpAnyL P md l.toArray Q t S fuel (after (listed.setIfInBounds i true) σ) a' w) (picks l σ) (a.put (nth l i).dst v) →
        wpAnyL P md l.toArray Q t S ((σ.length + fuel) + 1) listed a w := fun v hy hk =>
      wpAnyL_first ho hT (Region.noSelect_spec hsel) (fun c a w => hQ c a _ _ w) (σ.length + fuel) listed a w (Region.free_spec ho hf) (by simpa using hr) hy hS
        (phaseL_of hsel hQ fuel w hS σ _ _ rfl hrest hk)
    by_cases hw : Region.wanted (nth l i) (yielded l.toArray a.tmps) = true
    · rw [if_pos hw] at h
      obtain ⟨v, hv, hk⟩ := yields_of_quiet hc hS h
      exact step v (.inl ⟨hw, hv⟩) hk
    · rw [if_neg hw] at h
      exact step undef (.inr ⟨by simpa using hw, rfl⟩) h
def BehindL (P : Program) (md : Region.Mode) (l : List Oper) (Q : Exit → Act → World → Prop) (t : Nat) (S : World → Prop) (fuel : Nat) (listed : Array Bool) (a : Act) (w : World) : Prop :=
  ∃ S' : World → Prop, S' w ∧ (∀ x, S' x → S x) ∧ wpAnyL P md l.toArray Q t S' fuel listed a w
theorem phase_opL {l : List Oper} (i : Nat) {n : Nat} (fuel : Nat) {listed : Array Bool} {a : Act} {w : World} (hn : n = fuel + 1) (hr : Region.ready md l.toArray listed = [i]) (hi : i < l.length)
    (h : wpList P l.toArray (Qn (fun a' w' => BehindL P md l Q t S fuel (listed.setIfInBounds i true) a' w') Q) [nth l i] a w) : wpAnyL P md l.toArray Q t S n listed a w := by
  subst hn
  have ho : l.toArray[i]? = some (nth l i) := by rw [List.getElem?_toArray]; exact nth_some l i hi
  refine ⟨(fun h0 => by rw [hr] at h0; cases h0), fun j hj => ?_⟩
  rw [hr] at hj
  obtain rfl : j = i := by simpa using hj
  have fin : ∀ a' w', BehindL P md l Q t S fuel (listed.setIfInBounds j true) a' w' → (j = t ∨ S w') ∧ wpAnyL P md l.toArray Q t S fuel (listed.setIfInBounds j true) a' w' := fun a' w' ⟨S', h1, h2, h3⟩ => ⟨.inr (h2 _ h1), heldL_mono h2 _ _ _ _ h3⟩
  refine wpOp_mono fin ?_
  unfold wpOp
  simp only [ho]
  simp only [wpList] at h
  by_cases hw : Region.wanted (nth l j) (yielded l.toArray a.tmps) = true
  · rw [if_pos hw] at h ⊢
    rcases h with h | ⟨h1, a0, w0, h2⟩
    · exact .inl h
    · exact .inr ⟨h1, a0, w0, h2⟩
  · rw [if_neg hw] at h ⊢
    exact h
/-- The last operation. -/
theorem phase_last {l : List Oper} {n : Nat} (fuel : Nat) {listed : Array Bool} {a : Act} {w : World} (hn : n = fuel + 1) (hr : Region.ready md l.toArray listed = [t]) (hi : t < l.length) (hd : Region.ready md l.toArray (listed.setIfInBounds t true) = [])
    (h : wpList P l.toArray (Qn (fun a' w' => Q .normal a' w') (NoPanic Q)) [nth l t] a w) : wpAnyL P md l.toArray (NoPanic Q) t S n listed a w := by
  subst hn
  have ho : l.toArray[t]? = some (nth l t) := by rw [List.getElem?_toArray]; exact nth_some l t hi
  refine ⟨(fun h0 => by rw [hr] at h0; cases h0), fun j hj => ?_⟩
  rw [hr] at hj
  obtain rfl : j = t := by simpa using hj
  have done : ∀ a' w', Q .normal a' w' → (j = j ∨ S w') ∧ wpAnyL P md l.toArray (NoPanic Q) j S fuel (listed.setIfInBounds j true) a' w' := fun a' w' hq => by
    refine ⟨.inl rfl, ?_⟩
    cases fuel with
    | zero => exact ⟨hd, NoPanic.normal hq⟩
    | succ k => exact ⟨fun _ => NoPanic.normal hq, by rw [hd]; simp⟩
  have hm : wpOp P l.toArray (NoPanic Q) j (fun a' w' => Q .normal a' w') a w := by
    unfold wpOp
    simp only [ho]
    simp only [wpList] at h
    by_cases hw : Region.wanted (nth l j) (yielded l.toArray a.tmps) = true
    · rw [if_pos hw] at h ⊢
      rcases h with h | ⟨h1, a0, w0, h2⟩
      · exact .inl h
      · exact .inr ⟨h1, a0, w0, h2⟩
    · rw [if_neg hw] at h ⊢
      exact h
  exact wpOp_mono done hm
/-- The region, its class: the world at hand, and whatever has been laid behind it; t: its last operation. -/
theorem region_laterL {id : Nat} {l : List Oper} {a : Act} {w : World} (t : Nat) (hm : P.follows .mixedOrders = true)
    (h : wpAnyL P .any l.toArray (NoPanic Q) t (fun x => ∃ p : Regrown, x = grow (redrawn w p.d) p.os) l.length (Array.replicate l.length false) a w.drew) : (Code.region id l.toArray true).wp P Q a w :=
  wp_region_noPanic (wp_region_any hm (by simpa using wpAny_of_L _ _ _ _ h))
theorem phase_laterL {l : List Oper} (hsel : Region.noSelect l.toArray = true) (fuel : Nat) {w0 w : World} (hb : Below w0.heap.size w0 w) (σ : List Nat) {n : Nat} {listed : Array Bool} {a : Act} (hn : n = σ.length + fuel) (hok : okPhaseL md l t listed σ = true)
    (h : wpQuiet P l.toArray (fun x => ∃ p : Regrown, x = grow (redrawn w0 p.d) p.os) (fun a' => wpAnyL P md l.toArray (NoPanic Q) t (fun x => ∃ p : Regrown, x = grow (redrawn w0 p.d) p.os) fuel (after listed σ) a' w) (picks l σ) a) :
    wpAnyL P md l.toArray (NoPanic Q) t (fun x => ∃ p : Regrown, x = grow (redrawn w0 p.d) p.os) n listed a w := phaseL_of hsel (fun _ _ _ _ _ h => h) fuel w (later_of hb) σ listed a hn hok h
theorem behind_laterL {l : List Oper} {fuel : Nat} {listed : Array Bool} {a : Act} {w0 w : World} (hb : Below w0.heap.size w0 w)
    (h : wpAnyL P md l.toArray Q t (fun x => ∃ p : Regrown, x = grow (redrawn w p.d) p.os) fuel listed a w) : Qn (fun a' w' => BehindL P md l Q t (fun x => ∃ p : Regrown, x = grow (redrawn w0 p.d) p.os) fuel listed a' w') Q .normal a w :=
  ⟨_, later_of (Below.refl _ _), fun _ hx => later_of (hb.trans ((of_later hx).mono hb.size)), h⟩
theorem behind_sinceL {l : List Oper} {fuel : Nat} {listed : Array Bool} {a : Act} {w0 w : World} (hb : Below w0.heap.size w0 w)
    (h : wpAnyL P md l.toArray Q t (fun x => ∃ p : Regrown, x = grow (redrawn w0 p.d) p.os) fuel listed a w) : Qn (fun a' w' => BehindL P md l Q t (fun x => ∃ p : Regrown, x = grow (redrawn w0 p.d) p.os) fuel listed a' w') Q .normal a w :=
  ⟨_, later_of hb, fun _ hx => hx, h⟩
theorem behind_last {K : Exit → Act → World → Prop} {a : Act} {w : World} (h : Q .normal a w) : Qn (fun a' w' => Q .normal a' w') K .normal a w := h
end
end Go.Proofs.YtmolmpgampmolaaGreat
/-
  Memory with a footprint: which blocks a datum lies in, which blocks a call touches.
  Conditions: none.
-/
namespace Go.Proofs.YtmolmpgampmolaaGreat
set_option linter.unusedVariables false
set_option linter.unusedSimpArgs false
open Go.RowKit
/-- Nothing but blocks of F, and new ones, is touched. -/
structure Mv (F : Nat → Prop) (w w' : World) : Prop where
  os : w'.os = w.os
  tape : w'.tape = w.tape
  output : w'.output = w.output
  size : w.heap.size ≤ w'.heap.size
  block : ∀ b, b < w.heap.size → ¬ F b → w'.heap[b]? = w.heap[b]?
section
variable {F G : Nat → Prop} {w w' w1 w2 : World}
theorem Mv.refl (F : Nat → Prop) (w : World) : Mv F w w := ⟨rfl, rfl, rfl, Nat.le_refl _, fun _ _ _ => rfl⟩
theorem Mv.trans (h : Mv F w w1) (k : Mv G w1 w2) (hG : ∀ b, b < w.heap.size → G b → F b) : Mv F w w2 :=
  ⟨k.os.trans h.os, k.tape.trans h.tape, k.output.trans h.output, Nat.le_trans h.size k.size, fun b hb hF => (k.block b (Nat.lt_of_lt_of_le hb h.size) fun hg => hF (hG b hb hg)).trans (h.block b hb hF)⟩
theorem Mv.mono (h : Mv F w w') (hi : ∀ b, b < w.heap.size → F b → G b) : Mv G w w' := ⟨h.os, h.tape, h.output, h.size, fun b hb hG => h.block b hb fun hF => hG (hi b hb hF)⟩
theorem Mv.of_below {B : Nat} (h : Below B w w') : Mv (fun b => B ≤ b) w w' := ⟨h.os, h.tape, h.output, h.size, fun b _ hF => h.block b (Nat.lt_of_not_le hF)⟩
theorem Mv.of_new (h : Below w.heap.size w w') (F : Nat → Prop) : Mv F w w' := ⟨h.os, h.tape, h.output, h.size, fun b hb _ => h.block b hb⟩
theorem Mv.of_grown {row : Option Nat} (h : w.grownBy w' row) : Mv (fun b => some b = row) w w' := ⟨h.os, h.tape, h.output, h.size, fun b hb hF => h.block b hb hF⟩
theorem Mv.grown {g : Nat} (h : Mv (fun b => b = g) w w') : w.grownBy w' (some g) := ⟨h.os, h.tape, h.output, h.size, fun b hb hF => h.block b hb fun e => hF (by rw [e])⟩
theorem Mv.below {B : Nat} (h : Mv F w w') (hB : B ≤ w.heap.size) (hF : ∀ b, F b → B ≤ b) : Below B w w' := ⟨h.os, h.tape, h.output, h.size, fun b hb => h.block b (Nat.lt_of_lt_of_le hb hB) fun hf => by have := hF b hf; omega⟩
theorem Mv.setCell (w : World) (p : Addr) (u : Value) : Mv (fun b => b = p.block) w (w.setCell p u) := ⟨rfl, rfl, rfl, by simp [World.setCell], fun b _ hF => Below.heap_setCell w p u b hF⟩
theorem Mv.alloc (w : World) (o : Obj) (F : Nat → Prop) : Mv F w (w.alloc o) := Mv.of_new ((Below.refl _ _).alloc (Nat.le_refl _) o) F
theorem Mv.drew (h : Mv F w w') : Mv F w w'.drew := ⟨h.os, h.tape, h.output, h.size, h.block⟩
theorem Blk.mv {g : Nat} {t : TypeId} {cs : Array Value} (h : Blk w g t cs) (hm : Mv F w w') (hg : ¬ F g) : Blk w' g t cs := (hm.block g h.lt hg).trans h
theorem RB.mv {B n c : Nat} {A : Option Addr} {l : List UInt8} (h : RB w B A n c l) (hm : Mv F w w') (hB : B ≤ w.heap.size) (hF : ∀ b, b < B → ¬ F b) : RB w' B A n c l :=
  h.keep fun p hp => World.cell?_of_block (hm.block p.block (Nat.lt_of_lt_of_le hp hB) (hF _ hp))
end
/-- A world that came of w0 by touching blocks of G alone. -/
structure Wd (G : Nat → Prop) (w0 : World) where
  val : World
  ok : Mv G w0 val
instance instWd (G : Nat → Prop) (w0 : World) : Nonempty (Wd G w0) := ⟨⟨w0, Mv.refl _ _⟩⟩
section
variable {P : Program} {Q : Exit → Act → World → Prop} {md : Region.Mode} {t : Nat} {G : Nat → Prop}
/-- A region that draws its order: the class of its worlds is 'touched in G alone'; behind its last operation t nothing is asked. -/
theorem region_mv {id : Nat} {l : List Oper} {a : Act} {w : World} (t : Nat) (G : Nat → Prop) (hm : P.follows .mixedOrders = true)
    (h : wpAnyL P .any l.toArray (NoPanic Q) t (fun x => ∃ v : Wd G w, x = v.val) l.length (Array.replicate l.length false) a w.drew) : (Code.region id l.toArray true).wp P Q a w :=
  wp_region_noPanic (wp_region_any hm (by simpa using wpAny_of_L _ _ _ _ h))
theorem phase_mv {l : List Oper} (hsel : Region.noSelect l.toArray = true) (fuel : Nat) {w0 w : World} (hb : Mv G w0 w) (σ : List Nat) {n : Nat} {listed : Array Bool} {a : Act} (hn : n = σ.length + fuel) (hok : okPhaseL md l t listed σ = true)
    (h : wpQuiet P l.toArray (fun x => ∃ v : Wd G w0, x = v.val) (fun a' => wpAnyL P md l.toArray (NoPanic Q) t (fun x => ∃ v : Wd G w0, x = v.val) fuel (after listed σ) a' w) (picks l σ) a) :
    wpAnyL P md l.toArray (NoPanic Q) t (fun x => ∃ v : Wd G w0, x = v.val) n listed a w := phaseL_of hsel (fun _ _ _ _ _ h => h) fuel w ⟨⟨w, hb⟩, rfl⟩ σ listed a hn hok h
theorem behind_mv {l : List Oper} {fuel : Nat} {listed : Array Bool} {a : Act} {w0 w : World} (hb : Mv G w0 w)
    (h : wpAnyL P md l.toArray Q t (fun x => ∃ v : Wd G w0, x = v.val) fuel listed a w) : Qn (fun a' w' => BehindL P md l Q t (fun x => ∃ v : Wd G w0, x = v.val) fuel listed a' w') Q .normal a w :=
  ⟨_, ⟨⟨w, hb⟩, rfl⟩, fun _ hx => hx, h⟩
theorem phase_endL {S : World → Prop} {l : List Oper} {listed : Array Bool} {a : Act} {w : World} (hr : Region.ready md l.toArray listed = []) (h : Q .normal a w) : wpAnyL P md l.toArray (NoPanic Q) t S 0 listed a w := ⟨hr, NoPanic.normal h⟩
theorem Blk.four_mv {w0 : World} {g : Nat} {ty : TypeId} {a b c d : Value} (h : Blk w0 g ty #[a, b, c, d]) (hg : ¬ G g) : ∀ v : Wd G w0, v.val.cell? ⟨g, 0, none⟩ = some a ∧ v.val.cell? ⟨g, 1, none⟩ = some b ∧ v.val.cell? ⟨g, 2, none⟩ = some c ∧ v.val.cell? ⟨g, 3, none⟩ = some d := fun v => by
  have k := h.mv v.ok hg
  exact ⟨k.cell 0, k.cell 1, k.cell 2, k.cell 3⟩
theorem Blk.three_mv {w0 : World} {g : Nat} {ty : TypeId} {a b c : Value} (h : Blk w0 g ty #[a, b, c]) (hg : ¬ G g) : ∀ v : Wd G w0, v.val.cell? ⟨g, 0, none⟩ = some a ∧ v.val.cell? ⟨g, 1, none⟩ = some b ∧ v.val.cell? ⟨g, 2, none⟩ = some c := fun v => by
  have k := h.mv v.ok hg
  exact ⟨k.cell 0, k.cell 1, k.cell 2⟩
theorem cell_mv {w0 : World} {a : Addr} {x : Value} (h : w0.cell? a = some x) (hg : ¬ G a.block) : ∀ v : Wd G w0, v.val.cell? a = some x := fun v =>
  (World.cell?_of_block (v.ok.block a.block (World.block_lt_of_cell? w0 _ h) hg)).trans h
end
/-- The slice reads as the bytes l; its cells lie in a block of F. -/
structure RBp (w : World) (F : Nat → Prop) (A : Option Addr) (n c : Nat) (l : List UInt8) : Prop where
  len : l.length = n
  le : n ≤ c
  cap : c ≤ 9223372036854775807
  nil : A = none → n = 0 ∧ c = 0
  at_ : 0 < n → ∃ b o, A = some ⟨b, o, none⟩ ∧ F b ∧ b < w.heap.size ∧ ∀ i, i < n → w.cell? ⟨b, o + i, none⟩ = some (.int .u8 ((l.getD i 0).toNat : Int))
structure RVp (w : World) (F : Nat → Prop) (size : Nat) (A : Option Addr) (n c : Nat) (xs : List Value) : Prop where
  len : xs.length = n * size
  le : n ≤ c
  cap : c ≤ 9223372036854775807
  nil : A = none → n = 0 ∧ c = 0
  at_ : 0 < n → ∃ b o, A = some ⟨b, o, none⟩ ∧ F b ∧ b < w.heap.size ∧ ∀ j u, xs[j]? = some u → w.cell? ⟨b, o + j, none⟩ = some u
section
variable {F G : Nat → Prop} {w w' : World} {A : Option Addr} {n c size : Nat} {l : List UInt8} {xs : List Value}
theorem RBp.none_ (w : World) (F : Nat → Prop) : RBp w F none 0 0 [] := ⟨rfl, Nat.le_refl _, by omega, fun _ => ⟨rfl, rfl⟩, fun h => absurd h (by omega)⟩
theorem RVp.none_ (w : World) (F : Nat → Prop) (size : Nat) : RVp w F size none 0 0 [] := ⟨by simp, Nat.le_refl _, by omega, fun _ => ⟨rfl, rfl⟩, fun h => absurd h (by omega)⟩
theorem RBp.rb (h : RBp w F A n c l) : RB w w.heap.size A n c l := ⟨h.len, h.le, h.cap, h.nil, fun hn => by
  obtain ⟨b, o, e, _, hb, hc⟩ := h.at_ hn
  exact ⟨b, o, e, hb, hc⟩⟩
theorem RVp.rv (h : RVp w F size A n c xs) : RV w w.heap.size size A n c xs := ⟨h.len, h.le, h.cap, h.nil, fun hn => by
  obtain ⟨b, o, e, _, hb, hc⟩ := h.at_ hn
  exact ⟨b, o, e, hb, hc⟩⟩
theorem RBp.mono (h : RBp w F A n c l) (hi : ∀ b, b < w.heap.size → F b → G b) : RBp w G A n c l := ⟨h.len, h.le, h.cap, h.nil, fun hn => by
  obtain ⟨b, o, e, hF, hb, hc⟩ := h.at_ hn
  exact ⟨b, o, e, hi b hb hF, hb, hc⟩⟩
theorem RVp.mono (h : RVp w F size A n c xs) (hi : ∀ b, b < w.heap.size → F b → G b) : RVp w G size A n c xs := ⟨h.len, h.le, h.cap, h.nil, fun hn => by
  obtain ⟨b, o, e, hF, hb, hc⟩ := h.at_ hn
  exact ⟨b, o, e, hi b hb hF, hb, hc⟩⟩
theorem RBp.mv (h : RBp w F A n c l) (hm : Mv G w w') (hd : ∀ b, b < w.heap.size → F b → ¬ G b) : RBp w' F A n c l := ⟨h.len, h.le, h.cap, h.nil, fun hn => by
  obtain ⟨b, o, e, hF, hb, hc⟩ := h.at_ hn
  exact ⟨b, o, e, hF, Nat.lt_of_lt_of_le hb hm.size, fun i hi => (World.cell?_of_block (hm.block b hb (hd b hb hF))).trans (hc i hi)⟩⟩
theorem RVp.mv (h : RVp w F size A n c xs) (hm : Mv G w w') (hd : ∀ b, b < w.heap.size → F b → ¬ G b) : RVp w' F size A n c xs := ⟨h.len, h.le, h.cap, h.nil, fun hn => by
  obtain ⟨b, o, e, hF, hb, hc⟩ := h.at_ hn
  exact ⟨b, o, e, hF, Nat.lt_of_lt_of_le hb hm.size, fun j u hu => (World.cell?_of_block (hm.block b hb (hd b hb hF))).trans (hc j u hu)⟩⟩
theorem RBp.below (h : RBp w F A n c l) (hb : Below w.heap.size w w') : RBp w' F A n c l := h.mv (Mv.of_new hb fun _ => False) fun _ _ _ h => h
theorem RVp.below (h : RVp w F size A n c xs) (hb : Below w.heap.size w w') : RVp w' F size A n c xs := h.mv (Mv.of_new hb fun _ => False) fun _ _ _ h => h
theorem OB.rbp {base : Nat} (h : OB w base A n c l) (hF : ∀ k, (Value.slice A n c).ownBlock = some k → F k) : RBp w F A n c l := by
  have hr := h.rb
  refine ⟨hr.len, hr.le, hr.cap, hr.nil, fun hn => ?_⟩
  obtain ⟨b, o, rfl, hb, hc⟩ := hr.at_ hn
  obtain ⟨g, e, _, _⟩ := h.head hn
  exact ⟨b, o, rfl, hF b (by injection e with e; injection e with e1 _; simp [Value.ownBlock]), hb, hc⟩
theorem OV.rvp {base e : Nat} (h : OV w base e size A n c xs) (hF : ∀ k, (Value.slice A n c).ownBlock = some k → F k) : RVp w F size A n c xs := by
  have hr := h.rv
  refine ⟨hr.len, hr.le, hr.cap, hr.nil, fun hn => ?_⟩
  obtain ⟨b, o, rfl, hb, hc⟩ := hr.at_ hn
  exact ⟨b, o, rfl, hF b (by simp [Value.ownBlock]), hb, hc⟩
/-- 'x[:k]', whatever its capacity becomes. -/
theorem RVp.take (h : RVp w F size A n c xs) {k : Nat} (hk : k ≤ n) {c' : Nat} (hc' : c' ≤ c) (hkc : k ≤ c') : RVp w F size A k c' (xs.take (k * size)) := by
  have hm := Nat.mul_le_mul_right size hk
  refine ⟨by rw [List.length_take, h.len]; omega, hkc, Nat.le_trans hc' h.cap, fun e => ?_, fun hn => ?_⟩
  · have := h.nil e; omega
  · obtain ⟨b, o, rfl, hF, hb, hc⟩ := h.at_ (by omega)
    refine ⟨b, o, rfl, hF, hb, fun j u hu => ?_⟩
    rw [List.getElem?_take] at hu
    split at hu
    · exact hc j u hu
    · cases hu
/-- 'x[k:]' -/
theorem RVp.drop (h : RVp w F size A n c xs) {k : Nat} (hk : k ≤ n) : RVp w F size (if c = k then A else A.map (·.add (k * size))) (n - k) (c - k) (xs.drop (k * size)) := by
  refine ⟨by rw [List.length_drop, h.len, Nat.sub_mul], by have := h.le; omega, by have := h.cap; omega, fun e => ?_, fun hn => ?_⟩
  · have hA : A = none := by
      split at e
      · exact e
      · simpa using e
    have := h.nil hA; omega
  · obtain ⟨b, o, rfl, hF, hb, hc⟩ := h.at_ (by omega)
    rw [if_neg (by have := h.le; omega)]
    refine ⟨b, o + k * size, by simp [Addr.add_lit], hF, hb, fun j u hu => ?_⟩
    rw [Nat.add_assoc]
    exact hc _ u (by rw [← hu, List.getElem?_drop])
end
section
variable {P : Program} {T E size bytes : Nat} {z : Value}
theorem run_sizeOf (ht : ET P T E size bytes z) (w : World) : (sizeOf E).run P w = .ok size w := by
  obtain ⟨i, hi, _, hs, _⟩ := ht.info
  simp [sizeOf, typeInfo, hi, hs]
theorem et_elem (ht : ET P T E size bytes z) : P.elem T = E := by
  have := ht.sl
  simp [Program.elem, this]
/-- 'x[k:]' -/
theorem run_cut_rest (ht : ET P T E size bytes z) (A : Option Addr) (n c k : Nat) (hk : k ≤ n) (kd : IntKind) (w : World) :
    (Instr.slice T (.slice A n c) (some (.int kd (k : Int))) none none).run P w = .ok (.slice (if c = k then A else A.map (·.add (k * size))) (n - k) (c - k)) w := by
  have hT : P.underlying T = some (.slice (P.elem T)) := by rw [et_elem ht]; exact ht.sl
  rw [run_slice_l w T A n c hT kd (k : Int) (by omega) (by omega), et_elem ht, run_sizeOf ht]
  simp [Result.andThen, sliced]
/-- 'x[:k:k]' -/
theorem run_cut_full (ht : ET P T E size bytes z) (A : Option Addr) (n c k : Nat) (hk : k ≤ c) (kd kd' : IntKind) (w : World) :
    (Instr.slice T (.slice A n c) none (some (.int kd (k : Int))) (some (.int kd' (k : Int)))).run P w = .ok (.slice A k k) w := by
  have hT : P.underlying T = some (.slice (P.elem T)) := by rw [et_elem ht]; exact ht.sl
  rw [run_slice_hm w T A n c hT kd kd' (k : Int) (k : Int) (by omega) (by omega) (by omega), et_elem ht, run_sizeOf ht]
  cases A <;> simp [Result.andThen, sliced, Addr.add]
/-- 'x[:k]' -/
theorem run_cut_head (ht : ET P T E size bytes z) (A : Option Addr) (n c k : Nat) (hk : k ≤ c) (kd : IntKind) (w : World) :
    (Instr.slice T (.slice A n c) none (some (.int kd (k : Int))) none).run P w = .ok (.slice A k c) w := by
  have hT : P.underlying T = some (.slice (P.elem T)) := by rw [et_elem ht]; exact ht.sl
  rw [run_slice_h w T A n c hT kd (k : Int) (by omega) (by omega), et_elem ht, run_sizeOf ht]
  cases A <;> simp [Result.andThen, sliced, Addr.add]
end
end Go.Proofs.YtmolmpgampmolaaGreat
