/-
  Texts joined: TpdNew, MapRight, BitMem, Bit, BitGet, BitVal, BitTot.
  Conditions: none.
-/
import Derived.Test.YtbmocffnnlfnjaaGreatJ02
import Derived.Test.YtbmocffnnlfnjaaGreatJ04
import Derived.Test.YtbmocffnnlfnjaaGreatJ05
import Derived.Test.YtbmocffnnlfnjaaGreatJ07
import Derived.Test.YtbmocffnnlfnjaaGreatJ11
import Derived.Test.YtbmocffnnlfnjaaGreatJ12
import Derived.Deep.QuietTactic
import Derived.BigQuiet
/-
  Walks: New and Rest of layer 32.
  Conditions: none.
-/
namespace Go.Proofs.YtbmocffnnlfnjaaGreat
set_option linter.unusedVariables false
set_option linter.unusedSimpArgs false
open Go.RowKit
theorem Blk.fiv {w : World} {g : Nat} {t : TypeId} {a b c d e : Value} (h : Blk w g t #[a, b, c, d, e]) : (w.cell? ⟨g, 0, none⟩ = some a ∧ w.cell? ⟨g, 1, none⟩ = some b ∧ w.cell? ⟨g, 2, none⟩ = some c ∧ w.cell? ⟨g, 3, none⟩ = some d ∧ w.cell? ⟨g, 4, none⟩ = some e) ∧ (w.frozen? ⟨g, 0, none⟩ = false ∧ w.frozen? ⟨g, 1, none⟩ = false ∧ w.frozen? ⟨g, 2, none⟩ = false ∧ w.frozen? ⟨g, 3, none⟩ = false ∧ w.frozen? ⟨g, 4, none⟩ = false) := ⟨⟨h.cell 0, h.cell 1, h.cell 2, h.cell 3, h.cell 4⟩, h.frozen 0, h.frozen 1, h.frozen 2, h.frozen 3, h.frozen 4⟩
set_option maxRecDepth 100000 in
set_option maxHeartbeats 1000000 in
theorem Rest_any {w : World} {base g gd v : Nat} {t inh ev : Int} {ws : List Nat} {Aw : Option Addr} {cw : Nat} {s : Tp.St} (h : TpM w base g gd v t inh ev ws Aw cw s) :
    Calls Tryz.prog 19 #[.pointer (some ⟨g, 0, none⟩)] w fun e w' => e = .returned (.tuple #[]) ∧ Mv (fun q => q = g) w w' ∧ TpM w' base g gd v t inh ev ws Aw cw (Tp.restS ev) := by
  have F := h.blk.eleven
  have H2 := h.put (Tp.restS ev)
  have M := (((Mv.setCell w ⟨g, 7, none⟩ (.bool false)).trans (Mv.setCell _ ⟨g, 8, none⟩ (.int .i64 0)) (fun _ _ e => e)).trans (Mv.setCell _ ⟨g, 9, none⟩ (.int .i64 ev)) (fun _ _ e => e)).trans (Mv.setCell _ ⟨g, 10, none⟩ (.int .i64 0)) (fun _ _ e => e)
  clear h
  go_enter Tryz.func19, Tryz.ntmps19
  go_wp2_with fail
  go_end0
  exact ⟨rfl, M, H2⟩
def TNewP (l : List Ent.En) (gd v : Nat) (t inh ev : Int) (ws : List Nat) (w : World) (e : Ending) (w' : World) : Prop :=
  (Tp.checkS l v t inh ev ws = 0 ∧ Below w.heap.size w w' ∧ ∃ g Aw cw, e = .returned (.tuple #[.pointer (some ⟨g, 0, none⟩), .int .u32 0]) ∧ TpM w' w.heap.size g gd v t inh ev ws Aw cw (Tp.restS ev)) ∨
  (Tp.checkS l v t inh ev ws ≠ 0 ∧ Below w.heap.size w w' ∧ e = .returned (.tuple #[.pointer none, .int .u32 (Tp.checkS l v t inh ev ws)]))
set_option maxRecDepth 100000 in
set_option maxHeartbeats 4000000 in
theorem TpNew_any {F : Nat → Prop} {w : World} {g gv lc vc : Nat} {la : Addr} {vA : Option Addr} {xs vs : List Value} {D : Dc.Dic} {A : Option Addr} {n c B : Nat} {ws : List Nat} (v : Nat) (hv : v < 4294967296) (t inh ev : Int) (h : DRt 66 w F g gv (some la) lc vA vc xs vs D) (hd : ∀ e ∈ D.l, e.dflt.length ≤ 1000000) (hw : RW w B A n c ws) (hwl : ∀ x ∈ ws, x < 4294967296) (hB : B ≤ w.heap.size) :
    Calls Tryz.prog 9 #[.pointer (some ⟨g, 0, none⟩), .agg #[.int .u32 (v : Int), .int .i64 t, .int .i64 inh, .int .i64 ev, .slice A n c]] w (TNewP D.l g v t inh ev ws w) := by
  have b0 := alloc_one w (.cells #[.int .u32 (v : Int), .int .i64 t, .int .i64 inh, .int .i64 ev, .slice A n c] 39)
  have K := Blk.new w 39 #[.int .u32 (v : Int), .int .i64 t, .int .i64 inh, .int .i64 ev, .slice A n c]
  have F0 := K.fiv
  have CK := TCheck_any v hv t inh ev (h.below b0) hd (hw.below (b0.mono hB)) hwl (Nat.le_trans hB b0.size)
  unfold TNewP
  have hcp := Tp.check_parts (l := D.l) (w := v) (t := t) (inh := inh) (ev := ev) (ws := ws)
  have hl := hw.len
  subst hl
  generalize Tp.checkS D.l v t inh ev ws = r at *
  replace CK := Lib.hid CK
  by_cases hr : r = 0
  · subst hr
    obtain ⟨p1, p2, p3⟩ := hcp rfl
    have SP := Lib.hid (fun w => CSplit_ok v hv (Cob.place_bad p1) w)
    have h8 := (Mp.check_each p3).1
    clear hcp p1 p2 p3
    go_enter Tryz.func9, Tryz.ntmps9
    go_wp2_with fail
    refine (CK.out).mono ?_
    rintro e w1 ⟨rfl, b1⟩
    have d1 := below_step b0 b1 (Nat.le_refl _)
    have K1 := K.later b1
    have F1 := K1.fiv
    clear F0 K
    have hr1 := RW.below hw (d1.mono hB)
    go_wp2_with (at_builtin; refine wpList_app ett rfl (.const (.slice none 0 0)) (.tmp 17) rfl rfl rfl w.heap.size (OV.none_ _ _ _ _) hr1 (by intro u hu; obtain ⟨x, _, rfl⟩ := List.mem_map.1 hu; rfl) (by omega) (by omega) d1.size ?_; simp only [Nat.zero_add, List.nil_append]; intro A2 c2 w2 o2 g2 _; have b2 : Below w1.heap.size w1 w2 := (Below.refl _ w1).grown g2 (Nat.le_refl _) (fun k hk => by cases hk); have K2 := K1.later b2; have F2 := K2.fiv; have K3 : Blk (w2.setCell ⟨w.heap.size, 4, none⟩ (.slice A2 ws.length c2)) w.heap.size 39 #[.int .u32 (v : Int), .int .i64 t, .int .i64 inh, .int .i64 ev, .slice A2 ws.length c2] := K2.set_ 4 (.slice A2 ws.length c2); have F3 := K3.fiv; have F4 := (K3.alloc (.cells #[.pointer (some ⟨g, 0, none⟩), .int .u32 (v : Int), .int .i64 t, .int .i64 inh, .int .i64 ev, .slice A2 ws.length c2, .int .i64 0, .bool false, .int .i64 0, .int .i64 0, .int .i64 0] 75)).fiv; clear F1)
    have o3 : OWt ((w2.setCell ⟨w.heap.size, 4, none⟩ (.slice A2 ws.length c2)).alloc (.cells #[.pointer (some ⟨g, 0, none⟩), .int .u32 (v : Int), .int .i64 t, .int .i64 inh, .int .i64 ev, .slice A2 ws.length c2, .int .i64 0, .bool false, .int .i64 0, .int .i64 0, .int .i64 0] 75)) w.heap.size A2 ws.length c2 ws := OV.alloc (OV.off o2 K2 (by decide)) _
    have KG := Blk.new (w2.setCell ⟨w.heap.size, 4, none⟩ (.slice A2 ws.length c2)) 75 #[.pointer (some ⟨g, 0, none⟩), .int .u32 (v : Int), .int .i64 t, .int .i64 inh, .int .i64 ev, .slice A2 ws.length c2, .int .i64 0, .bool false, .int .i64 0, .int .i64 0, .int .i64 0]
    have d3 : Below w.heap.size w ((w2.setCell ⟨w.heap.size, 4, none⟩ (.slice A2 ws.length c2)).alloc (.cells #[.pointer (some ⟨g, 0, none⟩), .int .u32 (v : Int), .int .i64 t, .int .i64 inh, .int .i64 ev, .slice A2 ws.length c2, .int .i64 0, .bool false, .int .i64 0, .int .i64 0, .int .i64 0] 75)) := (((below_step d1 b2 (Nat.le_refl _)).setCell (p := ⟨w.heap.size, 4, none⟩) (Nat.le_refl _) (.slice A2 ws.length c2))).alloc (by have := d1.size; have := b2.size; simp; omega) _
    have hz2 : w.heap.size ≤ w2.heap.size := Nat.le_trans d1.size b2.size
    have hzs : (w2.setCell ⟨w.heap.size, 4, none⟩ (.slice A2 ws.length c2)).heap.size = w2.heap.size := by simp [World.setCell]
    rw [hzs] at KG
    generalize ((w2.setCell ⟨w.heap.size, 4, none⟩ (.slice A2 ws.length c2)).alloc (.cells #[.pointer (some ⟨g, 0, none⟩), .int .u32 (v : Int), .int .i64 t, .int .i64 inh, .int .i64 ev, .slice A2 ws.length c2, .int .i64 0, .bool false, .int .i64 0, .int .i64 0, .int .i64 0] 75)) = w3 at *
    generalize w2.heap.size = gq at *
    clear o2 g2 b2 F2 F3 K2 K3 hzs
    refine (SP.out _).mono ?_
    rintro e w4 ⟨rfl, b4⟩
    have hpdo : Cob.pdo v = if Cob.off v = true then 0 else Cob.id v := rfl
    generalize Cob.noR v = nr at *
    generalize Cob.off v = ov at *
    have b5 := alloc_one w4 (.cells #[.bool ov, .bool nr, .int .i64 (Cob.id v : Int)] 77)
    have b45 := below_step b4 b5 (Nat.le_refl _)
    have d5 := below_step d3 b45 (Nat.le_refl _)
    have FB := (Blk.new w4 77 #[.bool ov, .bool nr, .int .i64 (Cob.id v : Int)]).three
    have KG5 := KG.later b45
    have o5 := OV.below o3 b45
    have FG := KG5.eleven
    have hgl := KG.lt
    have hz4 := b4.size
    clear F4 KG o3 b4 SP CK
    cases ov
    · have KG6 := KG5.set_ 6 (.int .i64 (Cob.id v : Int))
      have o6 := OV.off (i := 6) (u := (.int .i64 (Cob.id v : Int))) o5 KG5 (by decide)
      have d6 := d5.setCell (p := ⟨gq, 6, none⟩) hz2 (.int .i64 (Cob.id v : Int))
      have TM : TpM _ w.heap.size gq g v t inh ev ws A2 c2 ⟨false, 0, 0, 0⟩ := ⟨hz2, by rw [hpdo]; exact KG6, o6⟩
      have RS := Lib.hid (Rest_any TM)
      clear TM KG6 KG5 o5 o6
      go_wp2_with fail
      refine (RS.out).mono ?_
      rintro e w6 ⟨rfl, M6, TM6⟩
      have d7 := d6.trans (M6.below d6.size fun q e => by subst e; omega)
      go_wp2_with fail
      go_ret2
      exact .inl ⟨by first | rfl | trivial, d7, gq, A2, c2, rfl, TM6⟩
    · have TM : TpM _ w.heap.size gq g v t inh ev ws A2 c2 ⟨false, 0, 0, 0⟩ := ⟨hz2, by rw [hpdo]; exact KG5, o5⟩
      have RS := Lib.hid (Rest_any TM)
      clear TM KG5 o5
      go_wp2_with fail
      refine (RS.out).mono ?_
      rintro e w6 ⟨rfl, M6, TM6⟩
      have d7 := d5.trans (M6.below d5.size fun q e => by subst e; omega)
      go_wp2_with fail
      go_ret2
      exact .inl ⟨by first | rfl | trivial, d7, gq, A2, c2, rfl, TM6⟩
  · clear hcp
    have hr2 : (r == 0) = false := by simpa using hr
    have hr3 : (r != 0) = true := by simpa using hr
    replace hr := Lib.hid hr
    go_enter Tryz.func9, Tryz.ntmps9
    go_wp2_with fail
    refine (CK.out).mono ?_
    rintro e w1 ⟨rfl, b1⟩
    have d1 := below_step b0 b1 (Nat.le_refl _)
    go_wp2_with fail
    go_ret2
    exact .inr ⟨hr.out, d1, rfl⟩
end Go.Proofs.YtbmocffnnlfnjaaGreat
/-
  Walks: right of layer 30.
  Conditions: none.
-/
namespace Go.Proofs.YtbmocffnnlfnjaaGreat
set_option linter.unusedVariables false
set_option linter.unusedSimpArgs false
open Go.RowKit
set_option maxRecDepth 100000 in
set_option maxHeartbeats 4000000 in
theorem MRight_any {F : Nat → Prop} {w : World} {g gv lc vc : Nat} {la : Addr} {vA : Option Addr} {xs vs : List Value} {D : Dc.Dic} {A : Option Addr} {n c B : Nat} {ws : List Nat} (inn : Bool) (h : DRt 66 w F g gv (some la) lc vA vc xs vs D) (hd : ∀ e ∈ D.l, e.dflt.length ≤ 1000000) (hw : RW w B A n c ws) (hwl : ∀ x ∈ ws, x < 4294967296) (hB : B ≤ w.heap.size) : Calls Tryz.prog 91 #[.pointer (some ⟨g, 0, none⟩), .slice A n c, .bool inn] w fun e w' => e = .returned (.int .i64 (if Mp.checkS D.l inn ws ≠ 0 then 4 else 0)) ∧ Below w.heap.size w w' := by
  have CK := MCheck_any inn h hd hw hwl hB
  generalize Mp.checkS D.l inn ws = r at *
  replace CK := Lib.hid CK
  by_cases hr : r = 0
  · subst hr
    simp only [ne_eq, not_true_eq_false, if_false]
    go_enter Tryz.func91, Tryz.ntmps91
    go_wp2_with fail
    refine (CK.out).mono ?_
    rintro e w1 ⟨rfl, b1⟩
    go_wp2_with fail
    go_ret
    exact ⟨rfl, b1⟩
  · simp only [ne_eq, hr, not_false_eq_true, if_true]
    have hr2 : (r == 0) = false := by simpa using hr
    have hr3 : (r != 0) = true := by simpa using hr
    replace hr := Lib.hid hr
    go_enter Tryz.func91, Tryz.ntmps91
    go_wp2_with fail
    refine (CK.out).mono ?_
    rintro e w1 ⟨rfl, b1⟩
    go_wp2_with fail
    go_ret
    exact ⟨rfl, b1⟩
end Go.Proofs.YtbmocffnnlfnjaaGreat
/-
  Fields in memory: of the program and of the reference.
  Conditions: none.
-/
namespace Go.Proofs.YtbmocffnnlfnjaaGreat
set_option linter.unusedVariables false
set_option linter.unusedSimpArgs false
open Go.ChangeShapes Go.WideShapes Go.ChangeAt Go.RowKit
/-- The cells of a field. -/
def FlC (w : World) (B : Nat) (f : Bt.Fld) (cs : List Value) : Prop := ∃ A n c, cs = [.int .i64 f.bits, .slice A n c] ∧ RB w B A n c f.data
theorem FlC.keep {w w' : World} {B : Nat} {f : Bt.Fld} {cs : List Value} (hk : ∀ p : Addr, p.block < B → w'.cell? p = w.cell? p) (h : FlC w B f cs) : FlC w' B f cs := by
  obtain ⟨A, n, c, h1, h2⟩ := h
  exact ⟨A, n, c, h1, h2.keep hk⟩
theorem FlC.below {w w' : World} {B : Nat} {f : Bt.Fld} {cs : List Value} (hb : Below B w w') (h : FlC w B f cs) : FlC w' B f cs := h.keep fun _ hp => hb.cell hp
theorem FlC.more {w : World} {B B' : Nat} {f : Bt.Fld} {cs : List Value} (hB : B ≤ B') (h : FlC w B f cs) : FlC w B' f cs := by
  obtain ⟨A, n, c, h1, h2⟩ := h
  exact ⟨A, n, c, h1, h2.more hB⟩
/-- A slice of fields; the bytes of its elements below B'. -/
def RFl (w : World) (B B' : Nat) (A : Option Addr) (n c : Nat) (fs : List Bt.Fld) : Prop := RS (FlC w B') w B 2 A n c fs
section
variable {w w' : World} {B B' n c : Nat} {A : Option Addr} {fs : List Bt.Fld}
theorem RFl.len (h : RFl w B B' A n c fs) : fs.length = n := RS.len h (by decide)
theorem RFl.lt (h : RFl w B B' A n c fs) : n ≤ 9223372036854775807 := RS.lt h
theorem RFl.below (h : RFl w B B' A n c fs) (hb : Below B w w') (hB : B' ≤ B) : RFl w' B B' A n c fs := RS.below h hb fun _ _ h => h.below (hb.mono hB)
theorem RFl.drew (h : RFl w B B' A n c fs) : RFl w.drew B B' A n c fs := RS.keep h (fun _ _ => rfl) fun _ _ h => FlC.keep (w := w) (fun _ _ => rfl) h
theorem RFl.at_ (h : RFl w B B' A n c fs) {i : Nat} (hi : i < n) : ∃ b o A' n' c', A = some ⟨b, o, none⟩ ∧ b < B ∧ w.cell? ⟨b, o + i * 2, none⟩ = some (.int .i64 (fs.getD i Bt.Fld.zero).bits) ∧
    w.cell? ⟨b, o + i * 2 + 1, none⟩ = some (.slice A' n' c') ∧ RB w B' A' n' c' (fs.getD i Bt.Fld.zero).data := by
  have hl := h.len
  have hf : fs[i]? = some (fs.getD i Bt.Fld.zero) := by simp [List.getD, List.getElem?_eq_getElem (show i < fs.length by omega)]
  obtain ⟨b, o, cs, rfl, hb, ⟨A', n', c', rfl, hr⟩, hc⟩ := RS.at_ h (by decide) hf
  exact ⟨b, o, A', n', c', rfl, hb, hc 0 _ (by decide) rfl, hc 1 _ (by decide) rfl, hr⟩
end
/-- A slice of numbers. -/
def RI (w : World) (B : Nat) (A : Option Addr) (n c : Nat) (ws : List Int) : Prop := RV w B 1 A n c (ws.map (Value.int .i64))
section
variable {w w' : World} {B B' n c : Nat} {A : Option Addr} {ws : List Int}
theorem RI.len (h : RI w B A n c ws) : ws.length = n := by have := RV.len h; simpa using this
theorem RI.lt (h : RI w B A n c ws) : n ≤ 9223372036854775807 := Nat.le_trans (RV.le h) (RV.cap h)
theorem RI.below (h : RI w B A n c ws) (hb : Below B w w') : RI w' B A n c ws := RV.below h hb
theorem RI.at_ (h : RI w B A n c ws) {i : Nat} (hi : i < n) : ∃ b o, A = some ⟨b, o, none⟩ ∧ b < B ∧ w.cell? ⟨b, o + i, none⟩ = some (.int .i64 (ws.getD i 0)) := by
  have hl := h.len
  obtain ⟨b, o, rfl, hb, hc⟩ := RV.at_ h (by omega)
  exact ⟨b, o, rfl, hb, hc i _ (by simp [List.getElem?_map, List.getD, show i < ws.length by omega])⟩
end
theorem etfl : ET Tryz.prog 126 130 2 32 (.agg #[.int .i64 0, .slice none 0 0]) := ⟨Tryz.underlying126, info_parts (by kernel_rfl), rfl, by decide⟩
theorem etrfl : ET Tryz.prog 132 133 2 32 (.agg #[.int .i64 0, .slice none 0 0]) := ⟨Tryz.underlying132, info_parts (by kernel_rfl), rfl, by decide⟩
theorem field_oneCell (f : Int) (A : Option Addr) (m c : Nat) : ∀ u ∈ ([.int .i64 f, .slice A m c] : List Value), u.oneCell' = true := by
  intro u hu
  simp only [List.mem_cons, List.not_mem_nil, or_false] at hu
  rcases hu with rfl | rfl <;> rfl
/-- The cells of a field whose bytes are the call's own. -/
def FlW (w : World) (base : Nat) (f : Bt.Fld) (cs : List Value) : Prop := ∃ A n c, cs = [.int .i64 f.bits, .slice A n c] ∧ OW w base A n c f.data
theorem FlW.below {w w' : World} {base : Nat} {f : Bt.Fld} {cs : List Value} (hb : Below w.heap.size w w') (h : FlW w base f cs) : FlW w' base f cs := by
  obtain ⟨A, n, c, h1, h2⟩ := h
  exact ⟨A, n, c, h1, h2.below hb⟩
theorem FlW.more {w : World} {base base' : Nat} {f : Bt.Fld} {cs : List Value} (hb : base' ≤ base) (h : FlW w base f cs) : FlW w base' f cs := by
  obtain ⟨A, n, c, h1, h2⟩ := h
  exact ⟨A, n, c, h1, h2.more hb⟩
theorem FlW.flc {w : World} {base : Nat} {f : Bt.Fld} {cs : List Value} (h : FlW w base f cs) : FlC w w.heap.size f cs := by
  obtain ⟨A, n, c, h1, h2⟩ := h
  exact ⟨A, n, c, h1, h2.rb⟩
theorem FlW.beside {w w' : World} {base base' e size m c' : Nat} {A' : Option Addr} {xs : List Value} (h' : OV w base' e size A' m c' xs) (hne : e ≠ 5) (hg : w.grownBy w' (Value.slice A' m c').ownBlock) {f : Bt.Fld} {cs : List Value} (h : FlW w base f cs) : FlW w' base f cs := by
  obtain ⟨A, n, c, h1, h2⟩ := h
  exact ⟨A, n, c, h1, h2.beside h' hne hg⟩
section
variable {H : Type} {enc : TypeId × Value → H} {w : World} {spare : Nat → Bool} {held : Bool}
set_option maxRecDepth 100000 in
theorem cells_field {fuel : Nat} {cs : List Value} {x : DataW H × List MemPlace} (h : DataW.trod enc Tryz.prog w 0 spare held fuel 133 cs = some x) : ∃ f, FlC w w.heap.size f cs ∧ (Lit.int .i64 f.bits).wf = true := by
  have h3 : cs.length = 2 := trod_len Tryz.underlying133 h (by kernel_rfl)
  match cs, h3 with
  | [a, d], _ =>
    obtain ⟨_, _, t0⟩ := trod_one Tryz.underlying133 h 0 3 0 a rfl (by kernel_rfl) rfl
    obtain ⟨_, _, t2⟩ := trod_one Tryz.underlying133 h 1 49 1 d rfl (by kernel_rfl) rfl
    obtain ⟨i, rfl, hw⟩ := cell_int Tryz.underlying3 t0
    obtain ⟨A, n, c, l, rfl, hr⟩ := cell_bytes Tryz.underlying49 Tryz.underlying5 (by kernel_rfl) t2
    exact ⟨⟨i, l⟩, ⟨A, n, c, rfl, hr⟩, hw⟩
set_option maxRecDepth 100000 in
theorem open_rfields {r : Reach} {b0 : Nat} {v : Value} {d : DataW H} {p : List MemPlace} (hv : Value.okWide Tryz.prog w r b0 132 v) (h : DataW.Trod enc Tryz.prog w 0 spare held 132 v d p) :
    ∃ (A : Option Addr) (n c : Nat) (fs : List Bt.Fld), v = .slice A n c ∧ RFl w w.heap.size w.heap.size A n c fs ∧ ∀ f ∈ fs, (Lit.int .i64 f.bits).wf = true := by
  obtain ⟨A, n, c, rfl⟩ := okWide_slice Tryz.underlying132 hv
  obtain ⟨fuel, hf⟩ := h
  obtain ⟨fs, xs, hl, h1, h2⟩ := open_rows (fun f cs => FlC w w.heap.size f cs ∧ (Lit.int .i64 f.bits).wf = true) Tryz.underlying132 (show Tryz.prog.cellsOf 133 = 2 by kernel_rfl) (by decide) (fun _ _ _ h => cells_field h) hf
  refine ⟨A, n, c, fs, rfl, ⟨xs, h1, h2.imp fun _ _ h => h.1⟩, fun f hm => ?_⟩
  obtain ⟨i, hi, rfl⟩ := List.getElem_of_mem hm
  exact (h2.2 i _ (List.getElem?_eq_getElem hi)).2
end
end Go.Proofs.YtbmocffnnlfnjaaGreat
/-
  Walks: bits.room, wide, Bytes; the reference's Bytes, bit.
  Conditions: none.
-/
namespace Go.Proofs.YtbmocffnnlfnjaaGreat
set_option linter.unusedVariables false
set_option linter.unusedSimpArgs false
open Go.RowKit
theorem ret_bool' {a b : Bool} (h : a = b) : Ending.returned (.bool a) = .returned (.bool b) := by rw [h]
theorem room_any {A : Option Addr} {n c : Nat} (p m : Int) (w : World) (hn : n ≤ 1000000) :
    Calls Tryz.prog 124 #[.slice A n c, .int .i64 p, .int .i64 m] w fun e w' => e = .returned (.int .i64 (Bt.roomS n p m)) ∧ w = w' := by
  unfold Bt.roomS
  by_cases h : m < 1 ∨ 64 < m ∨ p < 0
  · rw [if_pos h]
    rcases (show m < 1 ∨ (1 ≤ m ∧ 64 < m) ∨ (1 ≤ m ∧ m ≤ 64 ∧ p < 0) by omega) with h | ⟨h1, h2⟩ | ⟨h1, h2, h3⟩
    all_goals
      go_enter Tryz.func124, Tryz.ntmps124
      go_wp2_with fail
      go_ret
      exact ⟨rfl, rfl⟩
  · rw [if_neg h]
    have h1 : 1 ≤ m := by omega
    have h2 : m ≤ 64 := by omega
    have h3 : 0 ≤ p := by omega
    clear h
    by_cases h : 8 * (n : Int) < p
    · rw [if_pos (.inl h)]
      go_enter Tryz.func124, Tryz.ntmps124
      go_wp2_with fail
      go_ret
      exact ⟨rfl, rfl⟩
    · by_cases h' : 8 * (n : Int) - p < m
      · rw [if_pos (.inr h')]
        go_enter Tryz.func124, Tryz.ntmps124
        go_wp2_with fail
        go_ret
        exact ⟨rfl, rfl⟩
      · rw [if_neg (by omega)]
        go_enter Tryz.func124, Tryz.ntmps124
        go_wp2_with fail
        go_ret
        exact ⟨rfl, rfl⟩
theorem Bytes_any (m : Int) (w : World) (hm : m ≤ 9223372036854775807) : Calls Tryz.prog 110 #[.int .i64 m] w fun e w' => e = .returned (.int .i64 (Bt.bytesS m)) ∧ w = w' := by
  unfold Bt.bytesS
  by_cases h : m < 1
  · rw [if_pos h]
    go_enter Tryz.func110, Tryz.ntmps110
    go_wp2_with fail
    go_ret
    exact ⟨rfl, rfl⟩
  · rw [if_neg h]
    go_enter Tryz.func110, Tryz.ntmps110
    go_wp2_with fail
    go_ret
    exact ⟨rfl, rfl⟩
theorem RBytes_any (m : Int) (w : World) (hm : m ≤ 9223372036854775807) : Calls Tryz.prog 113 #[.int .i64 m] w fun e w' => e = .returned (.int .i64 (Bt.bytesS m)) ∧ w = w' := by
  unfold Bt.bytesS
  by_cases h : m < 1
  · rw [if_pos h]
    go_enter Tryz.func113, Tryz.ntmps113
    go_wp2_with fail
    go_ret
    exact ⟨rfl, rfl⟩
  · rw [if_neg h]
    by_cases h0 : m % 8 = 0
    · have ht : (m.tmod 8 == 0) = true := by rw [Int.tmod_eq_emod_of_nonneg (by omega), h0]; rfl
      go_enter Tryz.func113, Tryz.ntmps113
      go_wp2_with fail
      go_ret
      exact ⟨ret_int (by omega), rfl⟩
    · have ht : (m.tmod 8 == 0) = false := by rw [Int.tmod_eq_emod_of_nonneg (by omega), beq_eq_false_iff_ne]; exact h0
      go_enter Tryz.func113, Tryz.ntmps113
      go_wp2_with fail
      go_ret
      exact ⟨ret_int (by omega), rfl⟩
theorem wide_any (v : Nat) (m : Int) (w : World) (h1 : 1 ≤ m) (h2 : m ≤ 64) :
    Calls Tryz.prog 123 #[.int .u64 (v : Int), .int .i64 m] w fun e w' => e = .returned (.bool (Bt.wideS v m)) ∧ w = w' := by
  unfold Bt.wideS
  by_cases h : m < 64
  · obtain ⟨k, rfl⟩ : ∃ k : Nat, m = (k : Int) := ⟨m.toNat, by omega⟩
    go_enter Tryz.func123, Tryz.ntmps123
    go_wp2_with fail
    go_ret
    refine ⟨ret_bool' ?_, rfl⟩
    have e : (v : Int) / 2 ^ k = ((v / 2 ^ k : Nat) : Int) := by simp
    simp only [e, h, decide_true, Bool.true_and, Int.toNat_natCast]
    rw [Bool.eq_iff_iff]
    simp only [bne_iff_ne, ne_eq]
    omega
  · go_enter Tryz.func123, Tryz.ntmps123
    go_wp2_with fail
    go_ret
    exact ⟨ret_bool' (by rw [show decide (m < 64) = false by simpa using h]; rfl), rfl⟩
end Go.Proofs.YtbmocffnnlfnjaaGreat
/-
  Walks: bits.Get, the reference's Get.
  Conditions: none.
-/
namespace Go.Proofs.YtbmocffnnlfnjaaGreat
set_option linter.unusedVariables false
set_option linter.unusedSimpArgs false
open Go.RowKit
theorem or_bit (x y j k : Nat) (hx : x < 2 ^ 8) (hy : y < 2 ^ k) (hk : k < 64) :
    bits .or .u64 (y : Int) (IntKind.u64.wrap (IntKind.u64.wrap (bits .and .u8 ((x : Int) / 2 ^ j) 1) * 2 ^ k)) = ((y + x / 2 ^ j % 2 * 2 ^ k : Nat) : Int) := by
  have e1 : (x : Int) / 2 ^ j = ((x / 2 ^ j : Nat) : Int) := by simp
  have hle : x / 2 ^ j ≤ x := Nat.div_le_self _ _
  have e2 : bits .and .u8 ((x : Int) / 2 ^ j) 1 = ((x / 2 ^ j % 2 : Nat) : Int) := by
    rw [e1]
    have := u8_and_nat (x / 2 ^ j) 1 (by omega) (by omega)
    rw [Nat.and_one_is_mod] at this
    exact this
  have hb : x / 2 ^ j % 2 < 2 := Nat.mod_lt _ (by decide)
  rw [e2]
  generalize x / 2 ^ j % 2 = z at *
  have hpk : 2 ^ k ≤ 2 ^ 63 := Nat.pow_le_pow_right (by decide) (by omega)
  have hzk : z * 2 ^ k ≤ 1 * 2 ^ k := Nat.mul_le_mul_right _ (by omega)
  have e3 : IntKind.u64.wrap (IntKind.u64.wrap ((z : Nat) : Int) * 2 ^ k) = ((z * 2 ^ k : Nat) : Int) := by
    rw [IntKind.wrap_u64, IntKind.wrap_u64, Int.emod_eq_of_lt (a := (z : Int)) (by omega) (by omega), show (z : Int) * 2 ^ k = ((z * 2 ^ k : Nat) : Int) by simp]
    omega
  rw [e3, u64_or_nat _ _ (by omega) (by omega)]
  congr 1
  rw [Nat.or_comm, Nat.mul_comm z, ← Nat.two_pow_add_eq_or_of_lt hy]
  omega
end Go.Proofs.YtbmocffnnlfnjaaGreat
/-
  Walks: bits.value, the reference's number; the closures of Pack and Unpack.
  Conditions: none.
-/
namespace Go.Proofs.YtbmocffnnlfnjaaGreat
set_option linter.unusedVariables false
set_option linter.unusedSimpArgs false
open Go.RowKit
theorem cut_all (l : List UInt8) : Oct.cut l 0 l.length = l := by simp [Oct.cut]
set_option maxHeartbeats 1000000 in
theorem value_any {A : Option Addr} {n c B : Nat} {l : List UInt8} (m : Int) (w : World) (hb : RB w B A n c l) (hn : n ≤ 1000000) (hB : B ≤ w.heap.size) (hm : m ≤ 9223372036854775807) :
    Calls Tryz.prog 109 #[.agg #[.int .i64 m, .slice A n c]] w fun e w' => e = .returned (.tuple #[.int .u64 ((Bt.valS ⟨m, l⟩).1 : Int), .bool (Bt.valS ⟨m, l⟩).2]) ∧ Below w.heap.size w w' := by
  have hl := hb.len
  have C := Lib.hid (fun w => Bytes_any m w hm)
  have b1 := alloc_one w (.cells #[.int .i64 m, .slice A n c] 130)
  have F := (Blk.new w 130 #[.int .i64 m, .slice A n c]).two
  by_cases hf : 1 ≤ m ∧ m ≤ 64 ∧ (n : Int) = Bt.bytesS m
  · obtain ⟨h1, h2, h3⟩ := hf
    have hp := Bt.bytesS_pos h1 h2
    have hv : Bt.valS ⟨m, l⟩ = (Oct.le l, !Bt.wideS (Oct.le l) m) := by
      unfold Bt.valS Bt.fits
      rw [if_pos (decide_eq_true ⟨h1, h2, by dsimp only; rw [hl, h3]⟩)]
    have C2 := Get_ok n 0 _ (hb.below (b1.mono hB)) (by omega) (by omega) (by omega)
    have e1 : Oct.cut l 0 n = l := by rw [← hl, cut_all]
    rw [e1, show ((0 : Nat) : Int) = 0 from rfl] at C2
    have C3 := fun w => wide_any (Oct.le l) m w h1 h2
    rw [hv]
    generalize Oct.le l = v at *
    generalize Bt.wideS v m = x at *
    replace C2 := Lib.hid C2
    replace C3 := Lib.hid C3
    rw [← h3] at C
    have hn1 : 1 ≤ n := by omega
    have hn2 : n ≤ 8 := by omega
    clear hv hl hb e1 hp h3
    go_enter Tryz.func109, Tryz.ntmps109
    go_wp2_with fail
    refine (C.out _).mono ?_
    rintro e _ ⟨rfl, rfl⟩
    go_wp2_with fail
    refine (C2.out).mono ?_
    rintro e _ ⟨rfl, rfl⟩
    go_wp2_with fail
    refine (C3.out _).mono ?_
    rintro e _ ⟨rfl, rfl⟩
    go_wp2_with fail
    go_ret2
    exact ⟨rfl, b1⟩
  · have hv : Bt.valS ⟨m, l⟩ = (0, false) := by
      unfold Bt.valS Bt.fits
      rw [if_neg (by rw [decide_eq_true_iff]; dsimp only; rw [hl]; exact hf)]
    rw [hv]
    clear hv
    rcases (show m < 1 ∨ (1 ≤ m ∧ 64 < m) ∨ (1 ≤ m ∧ m ≤ 64 ∧ ¬ (n : Int) = Bt.bytesS m) by omega) with h | ⟨h1, h2⟩ | ⟨h1, h2, h3⟩
    all_goals
      try have h4 : ((n : Int) != Bt.bytesS m) = true := by rw [bne_iff_ne]; exact h3
      clear hf hl hb
      generalize Bt.bytesS m = z at *
      try clear h3
      go_enter Tryz.func109, Tryz.ntmps109
      go_wp2_with fail
      refine (C.out _).mono ?_
      rintro e _ ⟨rfl, rfl⟩
      go_wp2_with fail
      go_ret2
      exact ⟨rfl, b1⟩
/-- The bytes of a number from the highest one down: k of them. -/
theorem le_down (l : List UInt8) (k : Nat) (h : k < l.length) : Oct.le (l.drop (l.length - 1 - k)) = 256 * Oct.le (l.drop (l.length - k)) + (l.getD (l.length - 1 - k) 0).toNat := by
  have e : l.drop (l.length - 1 - k) = l.getD (l.length - 1 - k) 0 :: l.drop (l.length - k) := by
    rw [List.drop_eq_getElem_cons (show l.length - 1 - k < l.length by omega), show l.length - 1 - k + 1 = l.length - k by omega]
    simp [List.getD, show l.length - 1 - k < l.length by omega]
  rw [e, Oct.le]
  omega
theorem wide_shift (v j : Nat) (h : (j : Int) < 64) : (((v : Nat) : Int) / 2 ^ j == 0) = !Bt.wideS v (j : Int) := by
  unfold Bt.wideS
  have e : (v : Int) / 2 ^ j = ((v / 2 ^ j : Nat) : Int) := by simp
  rw [e, show decide ((j : Int) < 64) = true from decide_eq_true h, Bool.true_and, Int.toNat_natCast]
  generalize v / 2 ^ j = x
  rw [Bool.eq_iff_iff]
  simp only [beq_iff_eq, Bool.not_eq_true', bne_eq_false_iff_eq]
  omega
set_option maxHeartbeats 2000000 in
theorem number_any {A : Option Addr} {n c B : Nat} {l : List UInt8} (m : Int) (w : World) (hb : RB w B A n c l) (hn : n ≤ 1000000) (hB : B ≤ w.heap.size) (hm : m ≤ 9223372036854775807) :
    Calls Tryz.prog 112 #[.agg #[.int .i64 m, .slice A n c]] w fun e w' => e = .returned (.tuple #[.int .u64 ((Bt.valS ⟨m, l⟩).1 : Int), .bool (Bt.valS ⟨m, l⟩).2]) ∧ Below w.heap.size w w' := by
  have hl := hb.len
  have C := Lib.hid (fun w => RBytes_any m w hm)
  have b1 := alloc_one w (.cells #[.int .i64 m, .slice A n c] 133)
  have F := (Blk.new w 133 #[.int .i64 m, .slice A n c]).two
  by_cases hf : 1 ≤ m ∧ m ≤ 64 ∧ (n : Int) = Bt.bytesS m
  · obtain ⟨h1, h2, h3⟩ := hf
    have hp := Bt.bytesS_pos h1 h2
    have hv : Bt.valS ⟨m, l⟩ = (Oct.le l, !Bt.wideS (Oct.le l) m) := by
      unfold Bt.valS Bt.fits
      rw [if_pos (decide_eq_true ⟨h1, h2, by dsimp only; rw [hl, h3]⟩)]
    have d1 : decide (m < 1) = false := decide_eq_false (by omega)
    have d2 : decide (64 < m) = false := decide_eq_false (by omega)
    have d3 : ((n : Int) != (n : Int)) = false := by simp
    have hn1 : 1 ≤ n := by omega
    have hn2 : n ≤ 8 := by omega
    rw [← h3] at C
    rw [hv]
    have HL := Lib.hid hl
    obtain ⟨b, o, rfl, hbB, hc⟩ := hb.at_ (show 0 < n by omega)
    have hbs : b < w.heap.size := by omega
    have hlow := fun k (h : k < l.length) => le_down l k h
    have HLOW := Lib.hid hlow
    have hlt0 := Oct.le_lt l
    have HLT := Lib.hid hlt0
    have HC := Lib.hid hc
    clear hv hl hb hp h3 hlow hlt0 hc
    go_enter Tryz.func112, Tryz.ntmps112
    go_wp2_with fail
    go_quiet ((go_at_call 113; exact quiet_same (C.out _)))
    go_wp2_with fail
    go_loop [4, 5] (fun v i => ∃ k : Nat, k ≤ n ∧ i = .int .i64 ((n : Int) - 1 - k) ∧ v = .int .u64 (Oct.le (l.drop (n - k)) : Int)) (fun _ i => (intOf i + 1).toNat)
    case atStart => exact ⟨0, by omega, by go_num, by rw [show l.drop (n - 0) = [] from List.drop_eq_nil_of_le (by have := HL.out; omega)]; rfl⟩
    case round =>
      obtain ⟨k, hk, rfl, rfl⟩ := hrel
      by_cases hlt : k < n
      · have hcell := HC.out (n - 1 - k) (by omega)
        have hx := (l.getD (n - 1 - k) 0).toNat_lt
        have hnx : Oct.le (l.drop (n - (k + 1))) = 256 * Oct.le (l.drop (n - k)) + (l.getD (n - 1 - k) 0).toNat := by
          have := HLOW.out k (by have := HL.out; omega)
          rw [HL.out] at this
          rw [show n - (k + 1) = n - 1 - k by omega, this]
        have hsm : Oct.le (l.drop (n - k)) < 72057594037927936 := by
          have h1 := Oct.le_lt (l.drop (n - k))
          rw [List.length_drop, HL.out, show n - (n - k) = k by omega] at h1
          exact Nat.lt_of_lt_of_le h1 (Nat.le_trans (Nat.pow_le_pow_right (by decide) (show k ≤ 7 by omega)) (by decide))
        generalize (l.getD (n - 1 - k) 0).toNat = x at *
        generalize Oct.le (l.drop (n - k)) = v at *
        have HN := Lib.hid hnx; clear hnx
        go_wp2_with fail
        go_round
        case rel => exact ⟨k + 1, by omega, by go_num, by rw [HN.out]; go_num⟩
        case measure => simp [intOf] <;> omega
      · obtain rfl : k = n := by omega
        rw [show l.drop (k - k) = l by simp]
        by_cases h64 : m = 64
        · subst h64
          go_wp2_with fail
          go_quiet (fail)
          go_wp2_with fail
          go_ret2
          exact ⟨rfl, below_drewN (below_drewN b1 _) _⟩
        · have h5 : m < 64 := by omega
          have d5 : (m == 64) = false := by rw [beq_eq_false_iff_ne]; exact h64
          clear h64
          obtain ⟨j, rfl⟩ : ∃ j : Nat, m = (j : Int) := ⟨m.toNat, by omega⟩
          go_wp2_with fail
          go_quiet (fail)
          go_wp2_with fail
          go_ret2
          refine ⟨?_, below_drewN (below_drewN b1 _) _⟩
          show Ending.returned (.tuple #[.int .u64 (Oct.le l : Int), .bool (((Oct.le l : Nat) : Int) / 2 ^ j == 0)]) = _
          rw [wide_shift _ _ h5]
  · have hv : Bt.valS ⟨m, l⟩ = (0, false) := by
      unfold Bt.valS Bt.fits
      rw [if_neg (by rw [decide_eq_true_iff]; dsimp only; rw [hl]; exact hf)]
    rw [hv]
    clear hv
    rcases (show m < 1 ∨ (1 ≤ m ∧ 64 < m) ∨ (1 ≤ m ∧ m ≤ 64 ∧ ¬ (n : Int) = Bt.bytesS m) by omega) with h | ⟨h1, h2⟩ | ⟨h1, h2, h3⟩
    all_goals
      try have h4 : ((n : Int) != Bt.bytesS m) = true := by rw [bne_iff_ne]; exact h3
      clear hf hl hb
      generalize Bt.bytesS m = z at *
      try clear h3
      try have d1 : decide (m < 1) = false := decide_eq_false (by omega)
      try have d2 : decide (64 < m) = false := decide_eq_false (by omega)
      go_enter Tryz.func112, Tryz.ntmps112
      go_wp2_with fail
      go_quiet ((go_at_call 113; exact quiet_same (C.out _)))
      go_wp2_with fail
      go_ret2
      exact ⟨rfl, below_drewN b1 _⟩
end Go.Proofs.YtbmocffnnlfnjaaGreat
/-
  Walks: the closures of Pack and Unpack, and total over them.
  Conditions: none.
-/
namespace Go.Proofs.YtbmocffnnlfnjaaGreat
set_option linter.unusedVariables false
set_option linter.unusedSimpArgs false
open Go.RowKit
set_option maxHeartbeats 1000000 in
theorem pack1_any {A : Option Addr} {n c B : Nat} {l : List UInt8} (m : Int) (w : World) (hb : RB w B A n c l) (hn : n ≤ 1000000) (hB : B ≤ w.heap.size) (hm : m ≤ 9223372036854775807) :
    Calls Tryz.prog 108 #[.agg #[.int .i64 m, .slice A n c]] w fun e w' => e = .returned (.tuple #[.int .i64 m, .bool (Bt.okF ⟨m, l⟩)]) ∧ Below w.heap.size w w' := by
  have b1 := alloc_one w (.cells #[.int .i64 m, .slice A n c] 130)
  have F := (Blk.new w 130 #[.int .i64 m, .slice A n c]).two
  have C := value_any m _ (hb.below (b1.mono hB)) hn (Nat.le_trans hB b1.size) hm
  unfold Bt.okF
  generalize (Bt.valS ⟨m, l⟩).1 = v at *
  generalize (Bt.valS ⟨m, l⟩).2 = x at *
  replace C := Lib.hid C
  clear hb
  go_enter Tryz.func108, Tryz.ntmps108
  go_wp2_with fail
  refine (C.out).mono ?_
  rintro e w1 ⟨rfl, b2⟩
  have K := Blk.made b2
  have F2 := K.two
  clear F
  go_wp2_with fail
  go_ret2
  exact ⟨rfl, below_step b1 b2 (Nat.le_refl _)⟩
theorem tot_bad {ws : List Int} {ok : List Bool} {i : Nat} (hi : i < ok.length) (h : ok.getD i false = false) : Bt.totS ws ok = (0, 1) := by
  unfold Bt.totS
  rw [Bt.all_not hi h]
  rfl
theorem tot_big {ws : List Int} {ok : List Bool} (h : ∀ i, i < ok.length → ok.getD i false = true) (hs : 64 < Bt.sumK ws ws.length) : Bt.totS ws ok = (0, 3) := by
  unfold Bt.totS
  rw [Bt.all_of h, if_pos rfl, if_pos hs]
theorem tot_ok {ws : List Int} {ok : List Bool} (h : ∀ i, i < ok.length → ok.getD i false = true) (hs : Bt.sumK ws ws.length ≤ 64) : Bt.totS ws ok = (Bt.sumK ws ws.length, 0) := by
  unfold Bt.totS
  rw [Bt.all_of h, if_pos rfl, if_neg (by omega)]
def TotPost (p : Int × Int) (w : World) (e : Ending) (w' : World) : Prop := e = .returned (.tuple #[.int .i64 p.1, .int .i64 p.2]) ∧ Below w.heap.size w w'
theorem tot_mk {p : Int × Int} {w w' : World} {a b : Int} (h : p = (a, b)) (hb : Below w.heap.size w w') : TotPost p w (.returned (.tuple #[.int .i64 a, .int .i64 b])) w' := by
  subst h; exact ⟨rfl, hb⟩
/-- What the loop over the first k has: their bits in all, cut at 65. -/
structure TotRel (ws : List Int) (ok : List Bool) (k : Nat) (s : Int) : Prop where
  lo : 0 ≤ s
  hi : s ≤ 65
  sum : s ≤ 64 → s = Bt.sumK ws k
  big : s = 65 → 65 ≤ Bt.sumK ws k
  all : ∀ i, i < k → ok.getD i false = true
theorem tot_start (ws : List Int) (ok : List Bool) : TotRel ws ok 0 0 := ⟨by omega, by omega, fun _ => rfl, fun h => by omega, fun _ h => absurd h (by omega)⟩
theorem TotRel.next {ws : List Int} {ok : List Bool} {k : Nat} {s x : Int} (h : TotRel ws ok k s) (h1 : 1 ≤ x) (hx : ws.getD k 0 = x) (ho : ok.getD k false = true) (s' : Int) (hs : (s + x ≤ 64 ∧ s' = s + x) ∨ (65 ≤ s + x ∧ s' = 65)) : TotRel ws ok (k + 1) s' := by
  have a := h.lo
  have b := h.hi
  refine ⟨by omega, by omega, fun h64 => ?_, fun h65 => ?_, fun i hi => ?_⟩
  · have := h.sum (by omega)
    rw [Bt.sumK, hx]
    omega
  · rw [Bt.sumK, hx]
    by_cases e : s = 65
    · have := h.big e
      omega
    · have := h.sum (by omega)
      omega
  · rcases Nat.lt_or_ge i k with hi' | hi'
    · exact h.all i hi'
    · obtain rfl : i = k := by omega
      exact ho
theorem TotRel.toBig {ws : List Int} {ok : List Bool} {k : Nat} (h : TotRel ws ok k 65) (hw : ws.length = k) (ho : ok.length = k) : Bt.totS ws ok = (0, 3) :=
  tot_big (fun i hi => h.all i (by omega)) (by rw [hw]; have := h.big rfl; omega)
theorem TotRel.fine {ws : List Int} {ok : List Bool} {k : Nat} {s : Int} (h : TotRel ws ok k s) (hw : ws.length = k) (ho : ok.length = k) (hs : s ≤ 64) : Bt.totS ws ok = (s, 0) := by
  have e := h.sum hs
  rw [tot_ok (fun i hi => h.all i (by omega)) (by rw [hw]; omega), hw, ← e]
set_option maxRecDepth 100000 in
set_option maxHeartbeats 2000000 in
theorem total_any {A : Option Addr} {n c B B' : Nat} {fs : List Bt.Fld} (w : World) (h : RFl w B B' A n c fs) (hn : n ≤ 1000000) (hB : B ≤ w.heap.size) (hB' : B' ≤ B) (hsm : ∀ f ∈ fs, f.data.length ≤ 1000000) (hm : ∀ f ∈ fs, f.bits ≤ 9223372036854775807) :
    Calls Tryz.prog 107 #[.func (.func 108) #[] #[], .slice A n c] w (TotPost (Bt.totS (Bt.bitsOf fs) (fs.map Bt.okF)) w) := by
  have hl := h.len
  go_enter Tryz.func107, Tryz.ntmps107
  go_wp2_with fail
  go_loopw [6, 13] (fun v u wr => ∃ (k : Nat) (s : Int), k ≤ n ∧ u = .int .i64 k ∧ v = .int .i64 s ∧ TotRel (Bt.bitsOf fs) (fs.map Bt.okF) k s ∧ Below w.heap.size w wr) (fun _ u _ => n - (intOf u).toNat)
  case atStart => exact ⟨0, 0, by omega, rfl, rfl, tot_start _ _, Below.refl _ _⟩
  case round =>
    obtain ⟨k, s, hk, rfl, rfl, hrel, hbel⟩ := hrel
    have hs1 := hrel.lo
    have hs2 := hrel.hi
    have HREL := Lib.hid hrel; clear hrel
    by_cases hlt : k < n
    · obtain ⟨b, o, A1, n1, c1, rfl, hbB, q0, q1, hr⟩ := (h.below (hbel.mono hB) hB').at_ hlt
      have hmem : fs.getD k Bt.Fld.zero ∈ fs := by
        have : k < fs.length := by omega
        rw [show fs.getD k Bt.Fld.zero = fs[k] by simp [List.getD, this]]
        exact List.getElem_mem this
      have hd := hsm _ hmem
      have hb := hm _ hmem
      have hok := Bt.okF_getD fs k
      have hbi := Bt.bitsOf_getD fs k
      generalize fs.getD k Bt.Fld.zero = f at *
      obtain ⟨m, l⟩ := f
      dsimp only at *
      obtain rfl : l.length = n1 := hr.len
      have b1 := alloc_one wr (.cells #[.int .i64 m, .slice A1 l.length c1] 130)
      have F := (Blk.new wr 130 #[.int .i64 m, .slice A1 l.length c1]).two
      have hz := hbel.size
      have C := pack1_any m _ (hr.below (b1.mono (Nat.le_trans hB' (Nat.le_trans hB hz)))) hd (Nat.le_trans hB' (Nat.le_trans hB (Nat.le_trans hz b1.size))) hb
      have hfb := fun h => Bt.okF_fits (f := ⟨m, l⟩) h
      generalize Bt.okF ⟨m, l⟩ = x at *
      replace C := Lib.hid C
      have HOK := Lib.hid hok; have HBI := Lib.hid hbi
      clear hok hbi hr hmem
      cases x with
      | false =>
        clear hfb
        go_wp2_with fail
        refine (C.out).mono ?_
        rintro e w1 ⟨rfl, b2⟩
        go_wp2_with fail
        go_ret2
        exact tot_mk (tot_bad (i := k) (by rw [List.length_map]; omega) HOK.out) (below_step hbel (below_step b1 b2 (Nat.le_refl _)) (Nat.le_refl _))
      | true =>
        obtain ⟨g1, g2, _⟩ := hfb rfl
        dsimp only at g1 g2
        clear hfb
        go_wp2_with fail
        refine (C.out).mono ?_
        rintro e w1 ⟨rfl, b2⟩
        go_wp2_with fail
        go_roundw
        case rel =>
          refine ⟨k + 1, _, by omega, by go_num, rfl, HREL.out.next g1 HBI.out HOK.out _ ?_, below_step hbel (below_step b1 b2 (Nat.le_refl _)) (Nat.le_refl _)⟩
          split <;> omega
        case measure => simp [intOf] <;> omega
    · obtain rfl : k = n := by omega
      by_cases h65 : s = 65
      · subst h65
        go_wp2_with fail
        go_ret2
        exact tot_mk (HREL.out.toBig (by simpa [Bt.bitsOf] using hl) (by simpa using hl)) hbel
      · have h64 : s ≤ 64 := by omega
        clear h65
        go_wp2_with fail
        go_ret2
        exact tot_mk (HREL.out.fine (by simpa [Bt.bitsOf] using hl) (by simpa using hl) h64) hbel
end Go.Proofs.YtbmocffnnlfnjaaGreat
