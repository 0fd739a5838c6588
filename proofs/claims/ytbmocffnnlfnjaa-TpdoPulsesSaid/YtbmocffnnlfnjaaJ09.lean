/-
  Texts joined: MapFind, MapMem, MapOne, MapObj, MapWhy.
  Conditions: none.
-/
import Derived.Test.YtbmocffnnlfnjaaJ04
import Derived.Test.YtbmocffnnlfnjaaJ08
/-
  Walks: Entry of layer 15; find of layer 30.
  Conditions: none.
-/
namespace Go.Proofs.Ytbmocffnnlfnjaa
set_option linter.unusedVariables false
set_option linter.unusedSimpArgs false
open Go.RowKit
set_option maxRecDepth 100000 in
set_option maxHeartbeats 4000000 in
theorem dEntry_any {F : Nat → Prop} {w : World} {g gv lc vc : Nat} {la : Addr} {vA : Option Addr} {xs vs : List Value} {D : Dc.Dic} (k : Nat) (h : DRt 62 w F g gv (some la) lc vA vc xs vs D) (hk : k < D.l.length) (hd : ∀ e ∈ D.l, e.dflt.length ≤ 1000000) : Calls Try.prog 79 #[.pointer (some ⟨g, 0, none⟩), .int .i64 (k : Int)] w fun e w' => ∃ A1 n1 c1, e = .returned (.tuple #[enV (D.l.getD k Dc.en0) A1 n1 c1, .bool true]) ∧ OB w' w.heap.size A1 n1 c1 (D.l.getD k Dc.en0).dflt ∧ Below w.heap.size w w' := by
  obtain ⟨b, oo, A, n, c, hA, hbB, hr, hc⟩ := h.entry hk
  have hmem : D.l.getD k Dc.en0 ∈ D.l := by
    rw [List.getD_eq_getElem?_getD, List.getElem?_eq_getElem hk]
    exact List.getElem_mem hk
  have hdl := hd _ hmem
  clear hmem
  have hn := hr.len
  generalize he : D.l.getD k Dc.en0 = e0 at *
  have HE := Lib.hid he
  clear he
  obtain ⟨ix, sb, nm, ty, ac, mp, st, mx, lo, hi, df⟩ := e0
  unfold enV
  dsimp only at hr hdl hn ⊢
  injection hA with hA
  subst hA
  have b0 := alloc_one w (.cells #[.int .i64 0, .int .i64 0, .string ⟨#[]⟩, .int .i64 0, .int .i64 0, .bool false, .bool false, .int .i64 0, .int .i64 0, .int .i64 0, .slice none 0 0] 59)
  have LN := Lib.hid (dLen_any (h.below b0))
  have h2 := h.below b0
  obtain ⟨t0, t1⟩ := h2.two
  have hlc := h.lcap
  have HLC := Lib.hid hlc
  have c0 := (b0.cell (p := ⟨b, oo + k * 11 + 0, none⟩) hbB).trans (hc 0 _ rfl)
  have c1 := (b0.cell (p := ⟨b, oo + k * 11 + 1, none⟩) hbB).trans (hc 1 _ rfl)
  have c2 := (b0.cell (p := ⟨b, oo + k * 11 + 2, none⟩) hbB).trans (hc 2 _ rfl)
  have c3 := (b0.cell (p := ⟨b, oo + k * 11 + 3, none⟩) hbB).trans (hc 3 _ rfl)
  have c4 := (b0.cell (p := ⟨b, oo + k * 11 + 4, none⟩) hbB).trans (hc 4 _ rfl)
  have c5 := (b0.cell (p := ⟨b, oo + k * 11 + 5, none⟩) hbB).trans (hc 5 _ rfl)
  have c6 := (b0.cell (p := ⟨b, oo + k * 11 + 6, none⟩) hbB).trans (hc 6 _ rfl)
  have c7 := (b0.cell (p := ⟨b, oo + k * 11 + 7, none⟩) hbB).trans (hc 7 _ rfl)
  have c8 := (b0.cell (p := ⟨b, oo + k * 11 + 8, none⟩) hbB).trans (hc 8 _ rfl)
  have c9 := (b0.cell (p := ⟨b, oo + k * 11 + 9, none⟩) hbB).trans (hc 9 _ rfl)
  have c10 := (b0.cell (p := ⟨b, oo + k * 11 + 10, none⟩) hbB).trans (hc 10 _ rfl)
  simp only [Nat.add_zero] at c0
  dsimp only at c0 c1 c2 c3 c4 c5 c6 c7 c8 c9 c10
  have HD := held_any ⟨ix, sb, nm, ty, ac, mp, st, mx, lo, hi, df⟩ (w.alloc (.cells #[.int .i64 0, .int .i64 0, .string ⟨#[]⟩, .int .i64 0, .int .i64 0, .bool false, .bool false, .int .i64 0, .int .i64 0, .int .i64 0, .slice none 0 0] 59)) (hr.below b0) (by omega) b0.size
  unfold enV at HD
  dsimp only at HD
  replace HD := Lib.hid HD
  have K2 := Blk.new w 59 #[.int .i64 0, .int .i64 0, .string ⟨#[]⟩, .int .i64 0, .int .i64 0, .bool false, .bool false, .int .i64 0, .int .i64 0, .int .i64 0, .slice none 0 0]
  clear hc hr h h2 hlc
  generalize D.l.length = m at *
  go_enter Try.func79, Try.ntmps79
  go_wp2_with fail
  refine (LN.out).mono ?_
  rintro e w1 ⟨rfl, rfl⟩
  go_wp2_with fail
  refine (HD.out).mono ?_
  rintro e w1 ⟨A1, c1', rfl, o1, b1⟩
  replace K2 := K2.later b1
  have E2 := K2.eleven
  have d1 := below_step b0 b1 (Nat.le_refl _)
  simp only [World.size_alloc] at o1
  go_wp2_with fail
  have R := (K2.store11 (.int .i64 ix) (.int .i64 sb) (.string (T nm)) (.int .i64 ty) (.int .i64 ac) (.bool mp) (.bool st) (.int .i64 mx) (.int .i64 lo) (.int .i64 hi) (.slice A1 n c1')).eleven.1
  have d2 := below_set11 (g := w.heap.size) d1 (Nat.le_refl _) (.int .i64 ix) (.int .i64 sb) (.string (T nm)) (.int .i64 ty) (.int .i64 ac) (.bool mp) (.bool st) (.int .i64 mx) (.int .i64 lo) (.int .i64 hi) (.slice A1 n c1')
  have o2 := (o1.far11 (g := w.heap.size) (by omega) (.int .i64 ix) (.int .i64 sb) (.string (T nm)) (.int .i64 ty) (.int .i64 ac) (.bool mp) (.bool st) (.int .i64 mx) (.int .i64 lo) (.int .i64 hi) (.slice A1 n c1')).more (base' := w.heap.size) (by omega)
  exact bodyPost_ret (v := .tuple #[.agg #[.int .i64 ix, .int .i64 sb, .string (T nm), .int .i64 ty, .int .i64 ac, .bool mp, .bool st, .int .i64 mx, .int .i64 lo, .int .i64 hi, .slice A1 n c1'], .bool true]) (by simp [results, Try.results79, go_sem, R]) rfl ⟨A1, n, c1', rfl, o2, d2⟩
end Go.Proofs.Ytbmocffnnlfnjaa
/-
  A block of twelve cells that is known whole: an object of a mapping.
  Conditions: none.
-/
namespace Go.Proofs.Ytbmocffnnlfnjaa
set_option linter.unusedVariables false
set_option linter.unusedSimpArgs false
open Go.RowKit
theorem Blk.twelve {w : World} {g : Nat} {t : TypeId} {x0 x1 x2 x3 x4 x5 x6 x7 x8 x9 x10 x11 : Value} (h : Blk w g t #[x0, x1, x2, x3, x4, x5, x6, x7, x8, x9, x10, x11]) : (w.cell? ⟨g, 0, none⟩ = some x0 ∧ w.cell? ⟨g, 1, none⟩ = some x1 ∧ w.cell? ⟨g, 2, none⟩ = some x2 ∧ w.cell? ⟨g, 3, none⟩ = some x3 ∧ w.cell? ⟨g, 4, none⟩ = some x4 ∧ w.cell? ⟨g, 5, none⟩ = some x5 ∧ w.cell? ⟨g, 6, none⟩ = some x6 ∧ w.cell? ⟨g, 7, none⟩ = some x7 ∧ w.cell? ⟨g, 8, none⟩ = some x8 ∧ w.cell? ⟨g, 9, none⟩ = some x9 ∧ w.cell? ⟨g, 10, none⟩ = some x10 ∧ w.cell? ⟨g, 11, none⟩ = some x11) ∧ (w.frozen? ⟨g, 0, none⟩ = false ∧ w.frozen? ⟨g, 1, none⟩ = false ∧ w.frozen? ⟨g, 2, none⟩ = false ∧ w.frozen? ⟨g, 3, none⟩ = false ∧ w.frozen? ⟨g, 4, none⟩ = false ∧ w.frozen? ⟨g, 5, none⟩ = false ∧ w.frozen? ⟨g, 6, none⟩ = false ∧ w.frozen? ⟨g, 7, none⟩ = false ∧ w.frozen? ⟨g, 8, none⟩ = false ∧ w.frozen? ⟨g, 9, none⟩ = false ∧ w.frozen? ⟨g, 10, none⟩ = false ∧ w.frozen? ⟨g, 11, none⟩ = false) := ⟨⟨h.cell 0, h.cell 1, h.cell 2, h.cell 3, h.cell 4, h.cell 5, h.cell 6, h.cell 7, h.cell 8, h.cell 9, h.cell 10, h.cell 11⟩, h.frozen 0, h.frozen 1, h.frozen 2, h.frozen 3, h.frozen 4, h.frozen 5, h.frozen 6, h.frozen 7, h.frozen 8, h.frozen 9, h.frozen 10, h.frozen 11⟩
theorem Blk.store12 {w : World} {g : Nat} {t : TypeId} {x0 x1 x2 x3 x4 x5 x6 x7 x8 x9 x10 x11 : Value} (h : Blk w g t #[x0, x1, x2, x3, x4, x5, x6, x7, x8, x9, x10, x11]) (y0 y1 y2 y3 y4 y5 y6 y7 y8 y9 y10 y11 : Value) : Blk (World.setCell (World.setCell (World.setCell (World.setCell (World.setCell (World.setCell (World.setCell (World.setCell (World.setCell (World.setCell (World.setCell (World.setCell w ⟨g, 0, none⟩ y0) ⟨g, 1, none⟩ y1) ⟨g, 2, none⟩ y2) ⟨g, 3, none⟩ y3) ⟨g, 4, none⟩ y4) ⟨g, 5, none⟩ y5) ⟨g, 6, none⟩ y6) ⟨g, 7, none⟩ y7) ⟨g, 8, none⟩ y8) ⟨g, 9, none⟩ y9) ⟨g, 10, none⟩ y10) ⟨g, 11, none⟩ y11) g t #[y0, y1, y2, y3, y4, y5, y6, y7, y8, y9, y10, y11] := by
  have h0 : Blk _ g t #[y0, x1, x2, x3, x4, x5, x6, x7, x8, x9, x10, x11] := h.set_ 0 y0
  have h1 : Blk _ g t #[y0, y1, x2, x3, x4, x5, x6, x7, x8, x9, x10, x11] := h0.set_ 1 y1
  have h2 : Blk _ g t #[y0, y1, y2, x3, x4, x5, x6, x7, x8, x9, x10, x11] := h1.set_ 2 y2
  have h3 : Blk _ g t #[y0, y1, y2, y3, x4, x5, x6, x7, x8, x9, x10, x11] := h2.set_ 3 y3
  have h4 : Blk _ g t #[y0, y1, y2, y3, y4, x5, x6, x7, x8, x9, x10, x11] := h3.set_ 4 y4
  have h5 : Blk _ g t #[y0, y1, y2, y3, y4, y5, x6, x7, x8, x9, x10, x11] := h4.set_ 5 y5
  have h6 : Blk _ g t #[y0, y1, y2, y3, y4, y5, y6, x7, x8, x9, x10, x11] := h5.set_ 6 y6
  have h7 : Blk _ g t #[y0, y1, y2, y3, y4, y5, y6, y7, x8, x9, x10, x11] := h6.set_ 7 y7
  have h8 : Blk _ g t #[y0, y1, y2, y3, y4, y5, y6, y7, y8, x9, x10, x11] := h7.set_ 8 y8
  have h9 : Blk _ g t #[y0, y1, y2, y3, y4, y5, y6, y7, y8, y9, x10, x11] := h8.set_ 9 y9
  have h10 : Blk _ g t #[y0, y1, y2, y3, y4, y5, y6, y7, y8, y9, y10, x11] := h9.set_ 10 y10
  have h11 : Blk _ g t #[y0, y1, y2, y3, y4, y5, y6, y7, y8, y9, y10, y11] := h10.set_ 11 y11
  exact h11
theorem below_set12 {B : Nat} {a w : World} {g : Nat} (h : Below B a w) (hg : B ≤ g) (y0 y1 y2 y3 y4 y5 y6 y7 y8 y9 y10 y11 : Value) : Below B a (World.setCell (World.setCell (World.setCell (World.setCell (World.setCell (World.setCell (World.setCell (World.setCell (World.setCell (World.setCell (World.setCell (World.setCell w ⟨g, 0, none⟩ y0) ⟨g, 1, none⟩ y1) ⟨g, 2, none⟩ y2) ⟨g, 3, none⟩ y3) ⟨g, 4, none⟩ y4) ⟨g, 5, none⟩ y5) ⟨g, 6, none⟩ y6) ⟨g, 7, none⟩ y7) ⟨g, 8, none⟩ y8) ⟨g, 9, none⟩ y9) ⟨g, 10, none⟩ y10) ⟨g, 11, none⟩ y11) := ((((((((((((h.setCell (p := ⟨g, 0, none⟩) hg y0).setCell (p := ⟨g, 1, none⟩) hg y1).setCell (p := ⟨g, 2, none⟩) hg y2).setCell (p := ⟨g, 3, none⟩) hg y3).setCell (p := ⟨g, 4, none⟩) hg y4).setCell (p := ⟨g, 5, none⟩) hg y5).setCell (p := ⟨g, 6, none⟩) hg y6).setCell (p := ⟨g, 7, none⟩) hg y7).setCell (p := ⟨g, 8, none⟩) hg y8).setCell (p := ⟨g, 9, none⟩) hg y9).setCell (p := ⟨g, 10, none⟩) hg y10).setCell (p := ⟨g, 11, none⟩) hg y11)
theorem OB.far12 {w : World} {base g n c : Nat} {A : Option Addr} {l : List UInt8} (h : OB w base A n c l) (hg : g < base) (y0 y1 y2 y3 y4 y5 y6 y7 y8 y9 y10 y11 : Value) : OB (World.setCell (World.setCell (World.setCell (World.setCell (World.setCell (World.setCell (World.setCell (World.setCell (World.setCell (World.setCell (World.setCell (World.setCell w ⟨g, 0, none⟩ y0) ⟨g, 1, none⟩ y1) ⟨g, 2, none⟩ y2) ⟨g, 3, none⟩ y3) ⟨g, 4, none⟩ y4) ⟨g, 5, none⟩ y5) ⟨g, 6, none⟩ y6) ⟨g, 7, none⟩ y7) ⟨g, 8, none⟩ y8) ⟨g, 9, none⟩ y9) ⟨g, 10, none⟩ y10) ⟨g, 11, none⟩ y11) base A n c l := ((((((((((((h.far hg 0 y0).far hg 1 y1).far hg 2 y2).far hg 3 y3).far hg 4 y4).far hg 5 y5).far hg 6 y6).far hg 7 y7).far hg 8 y8).far hg 9 y9).far hg 10 y10).far hg 11 y11)
end Go.Proofs.Ytbmocffnnlfnjaa
/-
  Walks: find of layer 30.
  Conditions: none.
-/
namespace Go.Proofs.Ytbmocffnnlfnjaa
set_option linter.unusedVariables false
set_option linter.unusedSimpArgs false
open Go.RowKit
/-- What a word names, or why there is none. -/
def FindP (D : Dc.Dic) (v : Nat) (w : World) (e : Ending) (w' : World) : Prop := match Dc.findS D.l (Mp.ix v) (Mp.sb v) with
  | none => e = .returned (.tuple #[.agg #[.int .i64 0, .int .i64 0, .string ⟨#[]⟩, .int .i64 0, .int .i64 0, .bool false, .bool false, .int .i64 0, .int .i64 0, .int .i64 0, .slice none 0 0, .int .i64 0], .int .u32 (if Dc.inB D.l (Mp.ix v) = true then 101253137 else 100794368)]) ∧ Below w.heap.size w w'
  | some k => ∃ A n c, e = .returned (.tuple #[.agg #[.int .i64 (D.l.getD k Dc.en0).index, .int .i64 (D.l.getD k Dc.en0).sub, .string (T (D.l.getD k Dc.en0).name), .int .i64 (D.l.getD k Dc.en0).type, .int .i64 (D.l.getD k Dc.en0).access, .bool (D.l.getD k Dc.en0).map, .bool (D.l.getD k Dc.en0).store, .int .i64 (D.l.getD k Dc.en0).max, .int .i64 (D.l.getD k Dc.en0).low, .int .i64 (D.l.getD k Dc.en0).high, .slice A n c, .int .i64 (Mp.bt v : Int)], .int .u32 0]) ∧ OB w' w.heap.size A n c (D.l.getD k Dc.en0).dflt ∧ Below w.heap.size w w'
theorem find_no {D : Dc.Dic} {v : Nat} {w w' : World} {code : Int} (hf : Dc.findS D.l (Mp.ix v) (Mp.sb v) = none) (hc : (if Dc.inB D.l (Mp.ix v) = true then (101253137 : Int) else 100794368) = code) (hb : Below w.heap.size w w') :
    FindP D v w (.returned (.tuple #[.agg #[.int .i64 0, .int .i64 0, .string ⟨#[]⟩, .int .i64 0, .int .i64 0, .bool false, .bool false, .int .i64 0, .int .i64 0, .int .i64 0, .slice none 0 0, .int .i64 0], .int .u32 code])) w' := by
  subst hc
  unfold FindP
  rw [hf]
  exact ⟨rfl, hb⟩
theorem find_yes {D : Dc.Dic} {v k : Nat} {w w' : World} {ix sb ty ac mx lo hi : Int} {nm df : List UInt8} {mp st : Bool} {A : Option Addr} {n c : Nat} (hf : Dc.findS D.l (Mp.ix v) (Mp.sb v) = some k) (he : D.l.getD k Dc.en0 = ⟨ix, sb, nm, ty, ac, mp, st, mx, lo, hi, df⟩) (ho : OB w' w.heap.size A n c df) (hb : Below w.heap.size w w') :
    FindP D v w (.returned (.tuple #[.agg #[.int .i64 ix, .int .i64 sb, .string (T nm), .int .i64 ty, .int .i64 ac, .bool mp, .bool st, .int .i64 mx, .int .i64 lo, .int .i64 hi, .slice A n c, .int .i64 (Mp.bt v : Int)], .int .u32 0])) w' := by
  unfold FindP
  rw [hf]
  dsimp only
  rw [he]
  exact ⟨A, n, c, rfl, ho, hb⟩
set_option maxRecDepth 100000 in
set_option maxHeartbeats 4000000 in
theorem find_any {F : Nat → Prop} {w : World} {g gv lc vc : Nat} {la : Addr} {vA : Option Addr} {xs vs : List Value} {D : Dc.Dic} (v : Nat) (hv : v < 4294967296) (h : DRt 62 w F g gv (some la) lc vA vc xs vs D) (hd : ∀ e ∈ D.l, e.dflt.length ≤ 1000000) : Calls Try.prog 70 #[.pointer (some ⟨g, 0, none⟩), .int .u32 (v : Int)] w (FindP D v w) := by
  have SP := Lib.hid (fun w => MSplit_any v hv w)
  have b0 := alloc_one w (.cells #[.int .i64 0, .int .i64 0, .string ⟨#[]⟩, .int .i64 0, .int .i64 0, .bool false, .bool false, .int .i64 0, .int .i64 0, .int .i64 0, .slice none 0 0, .int .i64 0] 125)
  have K0 := Blk.new w 125 #[.int .i64 0, .int .i64 0, .string ⟨#[]⟩, .int .i64 0, .int .i64 0, .bool false, .bool false, .int .i64 0, .int .i64 0, .int .i64 0, .slice none 0 0, .int .i64 0]
  have FD := dFind_any (Mp.ix v : Int) (Mp.sb v : Int) (h.below b0)
  cases hf : Dc.findS D.l (Mp.ix v) (Mp.sb v) with
  | none =>
    rw [findP_none hf] at FD
    dsimp only at FD
    replace FD := Lib.hid FD
    have hm : Dc.mayS D.l false (Mp.ix v) (Mp.sb v) [] = if Dc.inB D.l (Mp.ix v) = true then 101253137 else 100794368 := by unfold Dc.mayS; rw [hf]
    have MY := fun (w1 : World) (hb : Below w.heap.size w w1) => dMay_any (Mp.ix v : Int) (Mp.sb v : Int) (h.below hb) (RB.none_ (w := w1) (B := 0)) (Nat.zero_le _)
    rw [hm] at MY
    generalize hcd : (if Dc.inB D.l (Mp.ix v) = true then (101253137 : Int) else 100794368) = code at *
    have HCD := Lib.hid hcd; have HF := Lib.hid hf
    replace MY := Lib.hid MY
    clear hm hcd hf
    go_enter Try.func70, Try.ntmps70
    go_wp2_with fail
    refine (SP.out _).mono ?_
    rintro e w1 ⟨rfl, rfl⟩
    go_wp2_with fail
    refine (FD.out).mono ?_
    rintro e w1 ⟨rfl, b1⟩
    have d1 := below_step b0 b1 (Nat.le_refl _)
    go_wp2_with fail
    refine (MY.out _ d1).mono ?_
    rintro e w2 ⟨rfl, b2⟩
    have K2 := (K0.later b1).later b2
    have d2 := below_step d1 b2 (Nat.le_refl _)
    have E2 := K2.twelve
    go_wp2_with fail
    have R := (K2.store12 (.int .i64 0) (.int .i64 0) (.string ⟨#[]⟩) (.int .i64 0) (.int .i64 0) (.bool false) (.bool false) (.int .i64 0) (.int .i64 0) (.int .i64 0) (.slice none 0 0) (.int .i64 0)).twelve.1
    have d3 := below_set12 (g := w.heap.size) d2 (Nat.le_refl _) (.int .i64 0) (.int .i64 0) (.string ⟨#[]⟩) (.int .i64 0) (.int .i64 0) (.bool false) (.bool false) (.int .i64 0) (.int .i64 0) (.int .i64 0) (.slice none 0 0) (.int .i64 0)
    exact bodyPost_ret (v := .tuple #[.agg #[.int .i64 0, .int .i64 0, .string ⟨#[]⟩, .int .i64 0, .int .i64 0, .bool false, .bool false, .int .i64 0, .int .i64 0, .int .i64 0, .slice none 0 0, .int .i64 0], .int .u32 code]) (by simp [results, Try.results70, go_sem, R]) rfl (find_no HF.out HCD.out d3)
  | some k =>
    rw [findP_some hf] at FD
    dsimp only at FD
    have hk := (Dc.find_some hf).2.1
    have HF := Lib.hid hf
    have EN := fun (w1 : World) (hb : Below w.heap.size w w1) => dEntry_any k (h.below hb) hk hd
    generalize he : D.l.getD k Dc.en0 = e0 at *
    have HE := Lib.hid he
    obtain ⟨ix, sb, nm, ty, ac, mp, st, mx, lo, hi, df⟩ := e0
    unfold enV at EN
    dsimp only at EN
    replace FD := Lib.hid FD; replace EN := Lib.hid EN
    clear he hf
    go_enter Try.func70, Try.ntmps70
    go_wp2_with fail
    refine (SP.out _).mono ?_
    rintro e w1 ⟨rfl, rfl⟩
    go_wp2_with fail
    refine (FD.out).mono ?_
    rintro e w1 ⟨rfl, b1⟩
    have d1 := below_step b0 b1 (Nat.le_refl _)
    go_wp2_with fail
    refine (EN.out _ d1).mono ?_
    rintro e w2 ⟨A1, n1, c1, rfl, o2, b2⟩
    have d2 := below_step d1 b2 (Nat.le_refl _)
    have b3 := alloc_one w2 (.cells #[.int .i64 ix, .int .i64 sb, .string (T nm), .int .i64 ty, .int .i64 ac, .bool mp, .bool st, .int .i64 mx, .int .i64 lo, .int .i64 hi, .slice A1 n1 c1] 59)
    have K3 := ((K0.later b1).later b2).later b3
    have d3 := below_step d2 b3 (Nat.le_refl _)
    have o3 := o2.below b3
    have E3 := K3.twelve
    have HS1 := Lib.hid (K0.later b1).lt
    clear b3 b2 b1 o2
    go_wp2_with fail
    have R := (K3.store12 (.int .i64 ix) (.int .i64 sb) (.string (T nm)) (.int .i64 ty) (.int .i64 ac) (.bool mp) (.bool st) (.int .i64 mx) (.int .i64 lo) (.int .i64 hi) (.slice A1 n1 c1) (.int .i64 (Mp.bt v : Int))).twelve.1
    have d4 := below_set12 (g := w.heap.size) d3 (Nat.le_refl _) (.int .i64 ix) (.int .i64 sb) (.string (T nm)) (.int .i64 ty) (.int .i64 ac) (.bool mp) (.bool st) (.int .i64 mx) (.int .i64 lo) (.int .i64 hi) (.slice A1 n1 c1) (.int .i64 (Mp.bt v : Int))
    have o4 := (o3.far12 (g := w.heap.size) HS1.out (.int .i64 ix) (.int .i64 sb) (.string (T nm)) (.int .i64 ty) (.int .i64 ac) (.bool mp) (.bool st) (.int .i64 mx) (.int .i64 lo) (.int .i64 hi) (.slice A1 n1 c1) (.int .i64 (Mp.bt v : Int))).more (base' := w.heap.size) (Nat.le_of_lt HS1.out)
    exact bodyPost_ret (v := .tuple #[.agg #[.int .i64 ix, .int .i64 sb, .string (T nm), .int .i64 ty, .int .i64 ac, .bool mp, .bool st, .int .i64 mx, .int .i64 lo, .int .i64 hi, .slice A1 n1 c1, .int .i64 (Mp.bt v : Int)], .int .u32 0]) (by simp [results, Try.results70, go_sem, R]) rfl (find_yes HF.out HE.out o4 d4)
end Go.Proofs.Ytbmocffnnlfnjaa
/-
  Walks: an object of a mapping, whether it is readable and writable.
  Conditions: none.
-/
namespace Go.Proofs.Ytbmocffnnlfnjaa
set_option linter.unusedVariables false
set_option linter.unusedSimpArgs false
open Go.RowKit
/-- An object of a mapping: an entry and a number of bits. -/
def objV (e : Ent.En) (A : Option Addr) (n c : Nat) (b : Int) : Value := .agg (#[.int .i64 e.index, .int .i64 e.sub, .string (T e.name), .int .i64 e.type, .int .i64 e.access, .bool e.map, .bool e.store, .int .i64 e.max, .int .i64 e.low, .int .i64 e.high, .slice A n c, .int .i64 b])
set_option maxRecDepth 100000 in
set_option maxHeartbeats 4000000 in
theorem objR_any (e : Ent.En) (A : Option Addr) (n c : Nat) (b : Int) (w : World) : Calls Try.prog 71 #[objV e A n c b] w fun x w' => x = .returned (.int .u32 (Ent.readS e)) ∧ Below w.heap.size w w' := by
  obtain ⟨ix, sb, nm, ty, ac, mp, st, mx, lo, hi, df⟩ := e
  unfold objV
  dsimp only
  have CL := fun w => Readable_any ⟨ix, sb, nm, ty, ac, mp, st, mx, lo, hi, df⟩ A n c w
  unfold enV at CL
  dsimp only at CL
  replace CL := Lib.hid CL
  have b0 := alloc_one w (.cells #[.int .i64 ix, .int .i64 sb, .string (T nm), .int .i64 ty, .int .i64 ac, .bool mp, .bool st, .int .i64 mx, .int .i64 lo, .int .i64 hi, .slice A n c, .int .i64 b] 125)
  generalize Ent.readS (⟨ix, sb, nm, ty, ac, mp, st, mx, lo, hi, df⟩ : Ent.En) = r at *
  go_enter Try.func71, Try.ntmps71
  go_wp2_with fail
  refine (CL.out _).mono ?_
  rintro e w1 ⟨rfl, b1⟩
  have d1 := below_step b0 b1 (Nat.le_refl _)
  go_wp2_with fail
  go_ret
  exact ⟨rfl, d1⟩
set_option maxRecDepth 100000 in
set_option maxHeartbeats 4000000 in
theorem objW_any (e : Ent.En) (A : Option Addr) (n c : Nat) (b : Int) (w : World) : Calls Try.prog 72 #[objV e A n c b] w fun x w' => x = .returned (.int .u32 (Ent.writS e)) ∧ Below w.heap.size w w' := by
  obtain ⟨ix, sb, nm, ty, ac, mp, st, mx, lo, hi, df⟩ := e
  unfold objV
  dsimp only
  have CL := fun w => Writable_any ⟨ix, sb, nm, ty, ac, mp, st, mx, lo, hi, df⟩ A n c w
  unfold enV at CL
  dsimp only at CL
  replace CL := Lib.hid CL
  have b0 := alloc_one w (.cells #[.int .i64 ix, .int .i64 sb, .string (T nm), .int .i64 ty, .int .i64 ac, .bool mp, .bool st, .int .i64 mx, .int .i64 lo, .int .i64 hi, .slice A n c, .int .i64 b] 125)
  generalize Ent.writS (⟨ix, sb, nm, ty, ac, mp, st, mx, lo, hi, df⟩ : Ent.En) = r at *
  go_enter Try.func72, Try.ntmps72
  go_wp2_with fail
  refine (CL.out _).mono ?_
  rintro e w1 ⟨rfl, b1⟩
  have d1 := below_step b0 b1 (Nat.le_refl _)
  go_wp2_with fail
  go_ret
  exact ⟨rfl, d1⟩
end Go.Proofs.Ytbmocffnnlfnjaa
/-
  Walks: one of layer 30.
  Conditions: none.
-/
namespace Go.Proofs.Ytbmocffnnlfnjaa
set_option linter.unusedVariables false
set_option linter.unusedSimpArgs false
open Go.RowKit
set_option maxRecDepth 100000 in
set_option maxHeartbeats 4000000 in
theorem one_any {F : Nat → Prop} {w : World} {g gv lc vc : Nat} {la : Addr} {vA : Option Addr} {xs vs : List Value} {D : Dc.Dic} (v : Nat) (hv : v < 4294967296) (inn : Bool) (h : DRt 62 w F g gv (some la) lc vA vc xs vs D) (hd : ∀ e ∈ D.l, e.dflt.length ≤ 1000000) : Calls Try.prog 57 #[.pointer (some ⟨g, 0, none⟩), .int .u32 (v : Int), .bool inn] w fun e w' => e = .returned (.int .u32 (Mp.oneS D.l inn v)) ∧ Below w.heap.size w w' := by
  have FN := find_any v hv h hd
  unfold FindP at FN
  cases hf : Dc.findS D.l (Mp.ix v) (Mp.sb v) with
  | none =>
    have ho : Mp.oneS D.l inn v = if Dc.inB D.l (Mp.ix v) = true then 101253137 else 100794368 := by unfold Mp.oneS; rw [hf]
    rw [hf] at FN
    dsimp only at FN
    rw [ho]
    clear ho hf
    cases hi : Dc.inB D.l (Mp.ix v)
    all_goals
      rw [hi] at FN
      simp only [if_true, Bool.false_eq_true, if_false] at FN
      simp only [if_true, Bool.false_eq_true, if_false]
      replace FN := Lib.hid FN
      clear hi
      go_enter Try.func57, Try.ntmps57
      go_wp2_with fail
      refine (FN.out).mono ?_
      rintro e w1 ⟨rfl, b1⟩
      go_wp2_with fail
      go_ret
      exact ⟨rfl, below_step b1 (alloc_one _ _) (Nat.le_refl _)⟩
  | some k =>
    have ho : Mp.oneS D.l inn v = if (D.l.getD k Dc.en0).map = false ∨ ((Ty.kd (D.l.getD k Dc.en0).type).bits : Int) ≠ (Mp.bt v : Int) ∨ (if inn = true then Ent.writS (D.l.getD k Dc.en0) else Ent.readS (D.l.getD k Dc.en0)) ≠ 0 then 100925505 else 0 := by unfold Mp.oneS; rw [hf]
    rw [hf] at FN
    dsimp only at FN
    rw [ho]
    clear ho hf
    generalize D.l.getD k Dc.en0 = e0 at *
    obtain ⟨ix, sb, nm, ty, ac, mp, st, mx, lo, hi, df⟩ := e0
    dsimp only at FN ⊢
    have TB := Lib.hid (fun w => TBits_any ty w)
    have OR := fun A n c w => objR_any ⟨ix, sb, nm, ty, ac, mp, st, mx, lo, hi, df⟩ A n c (Mp.bt v) w
    have OW := fun A n c w => objW_any ⟨ix, sb, nm, ty, ac, mp, st, mx, lo, hi, df⟩ A n c (Mp.bt v) w
    unfold objV at OR OW
    dsimp only at OR OW
    generalize Ent.readS (⟨ix, sb, nm, ty, ac, mp, st, mx, lo, hi, df⟩ : Ent.En) = rr at *
    generalize Ent.writS (⟨ix, sb, nm, ty, ac, mp, st, mx, lo, hi, df⟩ : Ent.En) = rw_ at *
    generalize ((Ty.kd ty).bits : Int) = kb at *
    generalize (Mp.bt v : Int) = vb at *
    replace OR := Lib.hid OR; replace OW := Lib.hid OW; replace FN := Lib.hid FN
    cases inn
    · simp only [Bool.false_eq_true, if_false, if_true]
      cases mp
      · simp only [true_or, if_true]
        go_enter Try.func57, Try.ntmps57
        go_wp2_with fail
        refine (FN.out).mono ?_
        rintro e w1 ⟨A, n, c, rfl, o1, b1⟩
        have b2 := alloc_one w1 (.cells #[.int .i64 ix, .int .i64 sb, .string (T nm), .int .i64 ty, .int .i64 ac, .bool false, .bool st, .int .i64 mx, .int .i64 lo, .int .i64 hi, .slice A n c, .int .i64 vb] 125)
        have K := Blk.new w1 125 #[.int .i64 ix, .int .i64 sb, .string (T nm), .int .i64 ty, .int .i64 ac, .bool false, .bool st, .int .i64 mx, .int .i64 lo, .int .i64 hi, .slice A n c, .int .i64 vb]
        have T := K.twelve
        have c3 := cell_regrown T.1.2.2.2.1
        have c5 := cell_regrown T.1.2.2.2.2.2.1
        have c11 := cell_regrown T.1.2.2.2.2.2.2.2.2.2.2.2
        have d2 := below_step b1 b2 (Nat.le_refl _)
        clear b1 b2 o1
        go_wp2_with fail
        refine region_later (by kernel_rfl) ?_
        refine phase_later (by kernel_rfl) 8 (below_drew _) [0, 1, 2, 3, 4, 5, 9, 6, 10, 7] rfl (by kernel_rfl) ?_
        simp only [picks, nth]
        repeat (go_big_quiet_step (fail))
        refine wpQuiet_nil ?_
        refine phase_op 8 7 rfl (by kernel_rfl) (by decide) ?_
        simp only [nth]
        go_wp2_with fail
        have D3 := Lib.hid (below_step d2 (below_drew _) (Nat.le_refl _))
        refine behind_later (below_drew _) ?_
        refine phase_later (by kernel_rfl) 3 (Below.refl _ _) [11, 12, 13, 14] rfl (by kernel_rfl) ?_
        simp only [picks, nth]
        repeat (go_big_quiet_step (fail))
        refine wpQuiet_nil ?_
        refine phase_op 15 2 rfl (by kernel_rfl) (by decide) ?_
        simp only [nth]
        go_wp2_with fail
        have D4 := D3
        refine behind_later (Below.refl _ _) ?_
        refine phase_later (by kernel_rfl) 0 (Below.refl _ _) [16, 17] rfl (by kernel_rfl) ?_
        simp only [picks, nth]
        repeat (go_big_quiet_step (fail))
        refine wpQuiet_nil ?_
        refine phase_end (by kernel_rfl) ?_
        go_wp2_with fail
        go_ret
        exact ⟨rfl, D4.out⟩
      · simp only [Bool.true_eq_false, false_or]
        by_cases hk : kb = vb
        · subst hk
          simp only [ne_eq, not_true_eq_false, false_or]
          by_cases hr : rr = 0
          · subst hr
            simp only [not_true_eq_false, if_false]
            go_enter Try.func57, Try.ntmps57
            go_wp2_with fail
            refine (FN.out).mono ?_
            rintro e w1 ⟨A, n, c, rfl, o1, b1⟩
            have b2 := alloc_one w1 (.cells #[.int .i64 ix, .int .i64 sb, .string (T nm), .int .i64 ty, .int .i64 ac, .bool true, .bool st, .int .i64 mx, .int .i64 lo, .int .i64 hi, .slice A n c, .int .i64 kb] 125)
            have K := Blk.new w1 125 #[.int .i64 ix, .int .i64 sb, .string (T nm), .int .i64 ty, .int .i64 ac, .bool true, .bool st, .int .i64 mx, .int .i64 lo, .int .i64 hi, .slice A n c, .int .i64 kb]
            have T := K.twelve
            have c3 := cell_regrown T.1.2.2.2.1
            have c5 := cell_regrown T.1.2.2.2.2.2.1
            have c11 := cell_regrown T.1.2.2.2.2.2.2.2.2.2.2.2
            have d2 := below_step b1 b2 (Nat.le_refl _)
            clear b1 b2 o1
            go_wp2_with fail
            refine region_later (by kernel_rfl) ?_
            refine phase_later (by kernel_rfl) 8 (below_drew _) [0, 1, 2, 3, 4, 5, 9, 6, 10, 7] rfl (by kernel_rfl) ?_
            simp only [picks, nth]
            repeat (go_big_quiet_step (fail))
            refine wpQuiet_nil ?_
            refine phase_op 8 7 rfl (by kernel_rfl) (by decide) ?_
            simp only [nth]
            go_wp2_with fail
            refine (TB.out _).mono ?_
            rintro e w2 ⟨rfl, b3⟩
            have d3 := below_step (below_drew _) b3 (Nat.le_refl _)
            have D3 := Lib.hid (below_step d2 d3 (Nat.le_refl _))
            go_wp2_with fail
            refine behind_later d3 ?_
            refine phase_later (by kernel_rfl) 3 (Below.refl _ _) [11, 12, 13, 14] rfl (by kernel_rfl) ?_
            simp only [picks, nth]
            repeat (go_big_quiet_step (fail))
            refine wpQuiet_nil ?_
            refine phase_op 15 2 rfl (by kernel_rfl) (by decide) ?_
            simp only [nth]
            go_wp2_with fail
            refine (OR.out _ _ _ _).mono ?_
            rintro e w3 ⟨rfl, b4⟩
            have D4 := Lib.hid (below_step D3.out b4 (Nat.le_refl _))
            go_wp2_with fail
            refine behind_later b4 ?_
            refine phase_later (by kernel_rfl) 0 (Below.refl _ _) [16, 17] rfl (by kernel_rfl) ?_
            simp only [picks, nth]
            repeat (go_big_quiet_step (fail))
            refine wpQuiet_nil ?_
            refine phase_end (by kernel_rfl) ?_
            go_wp2_with fail
            go_ret
            exact ⟨rfl, D4.out⟩
          · simp only [hr, not_false_eq_true, if_true]
            have hr2 : (rr == 0) = false := by simpa using hr
            replace hr := Lib.hid hr
            go_enter Try.func57, Try.ntmps57
            go_wp2_with fail
            refine (FN.out).mono ?_
            rintro e w1 ⟨A, n, c, rfl, o1, b1⟩
            have b2 := alloc_one w1 (.cells #[.int .i64 ix, .int .i64 sb, .string (T nm), .int .i64 ty, .int .i64 ac, .bool true, .bool st, .int .i64 mx, .int .i64 lo, .int .i64 hi, .slice A n c, .int .i64 kb] 125)
            have K := Blk.new w1 125 #[.int .i64 ix, .int .i64 sb, .string (T nm), .int .i64 ty, .int .i64 ac, .bool true, .bool st, .int .i64 mx, .int .i64 lo, .int .i64 hi, .slice A n c, .int .i64 kb]
            have T := K.twelve
            have c3 := cell_regrown T.1.2.2.2.1
            have c5 := cell_regrown T.1.2.2.2.2.2.1
            have c11 := cell_regrown T.1.2.2.2.2.2.2.2.2.2.2.2
            have d2 := below_step b1 b2 (Nat.le_refl _)
            clear b1 b2 o1
            go_wp2_with fail
            refine region_later (by kernel_rfl) ?_
            refine phase_later (by kernel_rfl) 8 (below_drew _) [0, 1, 2, 3, 4, 5, 9, 6, 10, 7] rfl (by kernel_rfl) ?_
            simp only [picks, nth]
            repeat (go_big_quiet_step (fail))
            refine wpQuiet_nil ?_
            refine phase_op 8 7 rfl (by kernel_rfl) (by decide) ?_
            simp only [nth]
            go_wp2_with fail
            refine (TB.out _).mono ?_
            rintro e w2 ⟨rfl, b3⟩
            have d3 := below_step (below_drew _) b3 (Nat.le_refl _)
            have D3 := Lib.hid (below_step d2 d3 (Nat.le_refl _))
            go_wp2_with fail
            refine behind_later d3 ?_
            refine phase_later (by kernel_rfl) 3 (Below.refl _ _) [11, 12, 13, 14] rfl (by kernel_rfl) ?_
            simp only [picks, nth]
            repeat (go_big_quiet_step (fail))
            refine wpQuiet_nil ?_
            refine phase_op 15 2 rfl (by kernel_rfl) (by decide) ?_
            simp only [nth]
            go_wp2_with fail
            refine (OR.out _ _ _ _).mono ?_
            rintro e w3 ⟨rfl, b4⟩
            have D4 := Lib.hid (below_step D3.out b4 (Nat.le_refl _))
            go_wp2_with fail
            refine behind_later b4 ?_
            refine phase_later (by kernel_rfl) 0 (Below.refl _ _) [16, 17] rfl (by kernel_rfl) ?_
            simp only [picks, nth]
            repeat (go_big_quiet_step (fail))
            refine wpQuiet_nil ?_
            refine phase_end (by kernel_rfl) ?_
            go_wp2_with fail
            go_ret
            exact ⟨rfl, D4.out⟩
        · simp only [ne_eq, hk, not_false_eq_true, true_or, if_true]
          have hk2 : (kb == vb) = false := by simpa using hk
          have hk3 : (kb != vb) = true := by simpa using hk
          replace hk := Lib.hid hk
          go_enter Try.func57, Try.ntmps57
          go_wp2_with fail
          refine (FN.out).mono ?_
          rintro e w1 ⟨A, n, c, rfl, o1, b1⟩
          have b2 := alloc_one w1 (.cells #[.int .i64 ix, .int .i64 sb, .string (T nm), .int .i64 ty, .int .i64 ac, .bool true, .bool st, .int .i64 mx, .int .i64 lo, .int .i64 hi, .slice A n c, .int .i64 vb] 125)
          have K := Blk.new w1 125 #[.int .i64 ix, .int .i64 sb, .string (T nm), .int .i64 ty, .int .i64 ac, .bool true, .bool st, .int .i64 mx, .int .i64 lo, .int .i64 hi, .slice A n c, .int .i64 vb]
          have T := K.twelve
          have c3 := cell_regrown T.1.2.2.2.1
          have c5 := cell_regrown T.1.2.2.2.2.2.1
          have c11 := cell_regrown T.1.2.2.2.2.2.2.2.2.2.2.2
          have d2 := below_step b1 b2 (Nat.le_refl _)
          clear b1 b2 o1
          go_wp2_with fail
          refine region_later (by kernel_rfl) ?_
          refine phase_later (by kernel_rfl) 8 (below_drew _) [0, 1, 2, 3, 4, 5, 9, 6, 10, 7] rfl (by kernel_rfl) ?_
          simp only [picks, nth]
          repeat (go_big_quiet_step (fail))
          refine wpQuiet_nil ?_
          refine phase_op 8 7 rfl (by kernel_rfl) (by decide) ?_
          simp only [nth]
          go_wp2_with fail
          refine (TB.out _).mono ?_
          rintro e w2 ⟨rfl, b3⟩
          have d3 := below_step (below_drew _) b3 (Nat.le_refl _)
          have D3 := Lib.hid (below_step d2 d3 (Nat.le_refl _))
          go_wp2_with fail
          refine behind_later d3 ?_
          refine phase_later (by kernel_rfl) 3 (Below.refl _ _) [11, 12, 13, 14] rfl (by kernel_rfl) ?_
          simp only [picks, nth]
          repeat (go_big_quiet_step (fail))
          refine wpQuiet_nil ?_
          refine phase_op 15 2 rfl (by kernel_rfl) (by decide) ?_
          simp only [nth]
          go_wp2_with fail
          have D4 := D3
          refine behind_later (Below.refl _ _) ?_
          refine phase_later (by kernel_rfl) 0 (Below.refl _ _) [16, 17] rfl (by kernel_rfl) ?_
          simp only [picks, nth]
          repeat (go_big_quiet_step (fail))
          refine wpQuiet_nil ?_
          refine phase_end (by kernel_rfl) ?_
          go_wp2_with fail
          go_ret
          exact ⟨rfl, D4.out⟩
    · simp only [Bool.false_eq_true, if_false, if_true]
      cases mp
      · simp only [true_or, if_true]
        go_enter Try.func57, Try.ntmps57
        go_wp2_with fail
        refine (FN.out).mono ?_
        rintro e w1 ⟨A, n, c, rfl, o1, b1⟩
        have b2 := alloc_one w1 (.cells #[.int .i64 ix, .int .i64 sb, .string (T nm), .int .i64 ty, .int .i64 ac, .bool false, .bool st, .int .i64 mx, .int .i64 lo, .int .i64 hi, .slice A n c, .int .i64 vb] 125)
        have K := Blk.new w1 125 #[.int .i64 ix, .int .i64 sb, .string (T nm), .int .i64 ty, .int .i64 ac, .bool false, .bool st, .int .i64 mx, .int .i64 lo, .int .i64 hi, .slice A n c, .int .i64 vb]
        have T := K.twelve
        have c3 := cell_regrown T.1.2.2.2.1
        have c5 := cell_regrown T.1.2.2.2.2.2.1
        have c11 := cell_regrown T.1.2.2.2.2.2.2.2.2.2.2.2
        have d2 := below_step b1 b2 (Nat.le_refl _)
        clear b1 b2 o1
        go_wp2_with fail
        refine region_later (by kernel_rfl) ?_
        refine phase_later (by kernel_rfl) 8 (below_drew _) [0, 1, 2, 3, 4, 5, 9, 6, 10, 7] rfl (by kernel_rfl) ?_
        simp only [picks, nth]
        repeat (go_big_quiet_step (fail))
        refine wpQuiet_nil ?_
        refine phase_op 8 7 rfl (by kernel_rfl) (by decide) ?_
        simp only [nth]
        go_wp2_with fail
        have D3 := Lib.hid (below_step d2 (below_drew _) (Nat.le_refl _))
        refine behind_later (below_drew _) ?_
        refine phase_later (by kernel_rfl) 3 (Below.refl _ _) [11, 12, 13, 14] rfl (by kernel_rfl) ?_
        simp only [picks, nth]
        repeat (go_big_quiet_step (fail))
        refine wpQuiet_nil ?_
        refine phase_op 15 2 rfl (by kernel_rfl) (by decide) ?_
        simp only [nth]
        go_wp2_with fail
        have D4 := D3
        refine behind_later (Below.refl _ _) ?_
        refine phase_later (by kernel_rfl) 0 (Below.refl _ _) [16, 17] rfl (by kernel_rfl) ?_
        simp only [picks, nth]
        repeat (go_big_quiet_step (fail))
        refine wpQuiet_nil ?_
        refine phase_end (by kernel_rfl) ?_
        go_wp2_with fail
        go_ret
        exact ⟨rfl, D4.out⟩
      · simp only [Bool.true_eq_false, false_or]
        by_cases hk : kb = vb
        · subst hk
          simp only [ne_eq, not_true_eq_false, false_or]
          by_cases hr : rw_ = 0
          · subst hr
            simp only [not_true_eq_false, if_false]
            go_enter Try.func57, Try.ntmps57
            go_wp2_with fail
            refine (FN.out).mono ?_
            rintro e w1 ⟨A, n, c, rfl, o1, b1⟩
            have b2 := alloc_one w1 (.cells #[.int .i64 ix, .int .i64 sb, .string (T nm), .int .i64 ty, .int .i64 ac, .bool true, .bool st, .int .i64 mx, .int .i64 lo, .int .i64 hi, .slice A n c, .int .i64 kb] 125)
            have K := Blk.new w1 125 #[.int .i64 ix, .int .i64 sb, .string (T nm), .int .i64 ty, .int .i64 ac, .bool true, .bool st, .int .i64 mx, .int .i64 lo, .int .i64 hi, .slice A n c, .int .i64 kb]
            have T := K.twelve
            have c3 := cell_regrown T.1.2.2.2.1
            have c5 := cell_regrown T.1.2.2.2.2.2.1
            have c11 := cell_regrown T.1.2.2.2.2.2.2.2.2.2.2.2
            have d2 := below_step b1 b2 (Nat.le_refl _)
            clear b1 b2 o1
            go_wp2_with fail
            refine region_later (by kernel_rfl) ?_
            refine phase_later (by kernel_rfl) 8 (below_drew _) [0, 1, 2, 3, 4, 5, 9, 6, 10, 7] rfl (by kernel_rfl) ?_
            simp only [picks, nth]
            repeat (go_big_quiet_step (fail))
            refine wpQuiet_nil ?_
            refine phase_op 8 7 rfl (by kernel_rfl) (by decide) ?_
            simp only [nth]
            go_wp2_with fail
            refine (TB.out _).mono ?_
            rintro e w2 ⟨rfl, b3⟩
            have d3 := below_step (below_drew _) b3 (Nat.le_refl _)
            have D3 := Lib.hid (below_step d2 d3 (Nat.le_refl _))
            go_wp2_with fail
            refine behind_later d3 ?_
            refine phase_later (by kernel_rfl) 3 (Below.refl _ _) [11, 12, 13, 14] rfl (by kernel_rfl) ?_
            simp only [picks, nth]
            repeat (go_big_quiet_step (fail))
            refine wpQuiet_nil ?_
            refine phase_op 15 2 rfl (by kernel_rfl) (by decide) ?_
            simp only [nth]
            go_wp2_with fail
            refine (OW.out _ _ _ _).mono ?_
            rintro e w3 ⟨rfl, b4⟩
            have D4 := Lib.hid (below_step D3.out b4 (Nat.le_refl _))
            go_wp2_with fail
            refine behind_later b4 ?_
            refine phase_later (by kernel_rfl) 0 (Below.refl _ _) [16, 17] rfl (by kernel_rfl) ?_
            simp only [picks, nth]
            repeat (go_big_quiet_step (fail))
            refine wpQuiet_nil ?_
            refine phase_end (by kernel_rfl) ?_
            go_wp2_with fail
            go_ret
            exact ⟨rfl, D4.out⟩
          · simp only [hr, not_false_eq_true, if_true]
            have hr2 : (rw_ == 0) = false := by simpa using hr
            replace hr := Lib.hid hr
            go_enter Try.func57, Try.ntmps57
            go_wp2_with fail
            refine (FN.out).mono ?_
            rintro e w1 ⟨A, n, c, rfl, o1, b1⟩
            have b2 := alloc_one w1 (.cells #[.int .i64 ix, .int .i64 sb, .string (T nm), .int .i64 ty, .int .i64 ac, .bool true, .bool st, .int .i64 mx, .int .i64 lo, .int .i64 hi, .slice A n c, .int .i64 kb] 125)
            have K := Blk.new w1 125 #[.int .i64 ix, .int .i64 sb, .string (T nm), .int .i64 ty, .int .i64 ac, .bool true, .bool st, .int .i64 mx, .int .i64 lo, .int .i64 hi, .slice A n c, .int .i64 kb]
            have T := K.twelve
            have c3 := cell_regrown T.1.2.2.2.1
            have c5 := cell_regrown T.1.2.2.2.2.2.1
            have c11 := cell_regrown T.1.2.2.2.2.2.2.2.2.2.2.2
            have d2 := below_step b1 b2 (Nat.le_refl _)
            clear b1 b2 o1
            go_wp2_with fail
            refine region_later (by kernel_rfl) ?_
            refine phase_later (by kernel_rfl) 8 (below_drew _) [0, 1, 2, 3, 4, 5, 9, 6, 10, 7] rfl (by kernel_rfl) ?_
            simp only [picks, nth]
            repeat (go_big_quiet_step (fail))
            refine wpQuiet_nil ?_
            refine phase_op 8 7 rfl (by kernel_rfl) (by decide) ?_
            simp only [nth]
            go_wp2_with fail
            refine (TB.out _).mono ?_
            rintro e w2 ⟨rfl, b3⟩
            have d3 := below_step (below_drew _) b3 (Nat.le_refl _)
            have D3 := Lib.hid (below_step d2 d3 (Nat.le_refl _))
            go_wp2_with fail
            refine behind_later d3 ?_
            refine phase_later (by kernel_rfl) 3 (Below.refl _ _) [11, 12, 13, 14] rfl (by kernel_rfl) ?_
            simp only [picks, nth]
            repeat (go_big_quiet_step (fail))
            refine wpQuiet_nil ?_
            refine phase_op 15 2 rfl (by kernel_rfl) (by decide) ?_
            simp only [nth]
            go_wp2_with fail
            refine (OW.out _ _ _ _).mono ?_
            rintro e w3 ⟨rfl, b4⟩
            have D4 := Lib.hid (below_step D3.out b4 (Nat.le_refl _))
            go_wp2_with fail
            refine behind_later b4 ?_
            refine phase_later (by kernel_rfl) 0 (Below.refl _ _) [16, 17] rfl (by kernel_rfl) ?_
            simp only [picks, nth]
            repeat (go_big_quiet_step (fail))
            refine wpQuiet_nil ?_
            refine phase_end (by kernel_rfl) ?_
            go_wp2_with fail
            go_ret
            exact ⟨rfl, D4.out⟩
        · simp only [ne_eq, hk, not_false_eq_true, true_or, if_true]
          have hk2 : (kb == vb) = false := by simpa using hk
          have hk3 : (kb != vb) = true := by simpa using hk
          replace hk := Lib.hid hk
          go_enter Try.func57, Try.ntmps57
          go_wp2_with fail
          refine (FN.out).mono ?_
          rintro e w1 ⟨A, n, c, rfl, o1, b1⟩
          have b2 := alloc_one w1 (.cells #[.int .i64 ix, .int .i64 sb, .string (T nm), .int .i64 ty, .int .i64 ac, .bool true, .bool st, .int .i64 mx, .int .i64 lo, .int .i64 hi, .slice A n c, .int .i64 vb] 125)
          have K := Blk.new w1 125 #[.int .i64 ix, .int .i64 sb, .string (T nm), .int .i64 ty, .int .i64 ac, .bool true, .bool st, .int .i64 mx, .int .i64 lo, .int .i64 hi, .slice A n c, .int .i64 vb]
          have T := K.twelve
          have c3 := cell_regrown T.1.2.2.2.1
          have c5 := cell_regrown T.1.2.2.2.2.2.1
          have c11 := cell_regrown T.1.2.2.2.2.2.2.2.2.2.2.2
          have d2 := below_step b1 b2 (Nat.le_refl _)
          clear b1 b2 o1
          go_wp2_with fail
          refine region_later (by kernel_rfl) ?_
          refine phase_later (by kernel_rfl) 8 (below_drew _) [0, 1, 2, 3, 4, 5, 9, 6, 10, 7] rfl (by kernel_rfl) ?_
          simp only [picks, nth]
          repeat (go_big_quiet_step (fail))
          refine wpQuiet_nil ?_
          refine phase_op 8 7 rfl (by kernel_rfl) (by decide) ?_
          simp only [nth]
          go_wp2_with fail
          refine (TB.out _).mono ?_
          rintro e w2 ⟨rfl, b3⟩
          have d3 := below_step (below_drew _) b3 (Nat.le_refl _)
          have D3 := Lib.hid (below_step d2 d3 (Nat.le_refl _))
          go_wp2_with fail
          refine behind_later d3 ?_
          refine phase_later (by kernel_rfl) 3 (Below.refl _ _) [11, 12, 13, 14] rfl (by kernel_rfl) ?_
          simp only [picks, nth]
          repeat (go_big_quiet_step (fail))
          refine wpQuiet_nil ?_
          refine phase_op 15 2 rfl (by kernel_rfl) (by decide) ?_
          simp only [nth]
          go_wp2_with fail
          have D4 := D3
          refine behind_later (Below.refl _ _) ?_
          refine phase_later (by kernel_rfl) 0 (Below.refl _ _) [16, 17] rfl (by kernel_rfl) ?_
          simp only [picks, nth]
          repeat (go_big_quiet_step (fail))
          refine wpQuiet_nil ?_
          refine phase_end (by kernel_rfl) ?_
          go_wp2_with fail
          go_ret
          exact ⟨rfl, D4.out⟩
end Go.Proofs.Ytbmocffnnlfnjaa
