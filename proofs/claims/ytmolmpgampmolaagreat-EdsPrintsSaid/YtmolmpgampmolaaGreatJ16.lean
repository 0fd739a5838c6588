/-
  Texts joined: TypParse, DicMem, DicNwM, MapPure, MapWord, MapNil.
  Conditions: none.
-/
import Derived.Test.YtmolmpgampmolaaGreatJ02
import Derived.Test.YtmolmpgampmolaaGreatJ04
import Derived.Test.YtmolmpgampmolaaGreatJ05
import Derived.Test.YtmolmpgampmolaaGreatJ06
import Derived.Test.YtmolmpgampmolaaGreatJ08
import Derived.Test.YtmolmpgampmolaaGreatJ12
import Derived.Test.YtmolmpgampmolaaGreatJ14
import Derived.Test.YtmolmpgampmolaaGreatJ15
/-
  Walks: types.raw, Parse, the reference's Parse.
  Conditions: none.
-/
namespace Go.Proofs.YtmolmpgampmolaaGreat
set_option linter.unusedVariables false
set_option linter.unusedSimpArgs false
open Go.RowKit
theorem UnhexT (s : List UInt8) (w : World) (hn : s.length ≤ 200000) : Calls Tryz.prog 128 #[.string (T s)] w (BP (Oct.unhexS s) w) := Unhex_any s w hn
theorem RUnhexT (s : List UInt8) (w : World) (hn : s.length ≤ 200000) : Calls Tryz.prog 62 #[.string (T s)] w (BP (Oct.unhexS s) w) := RUnhex_any s w hn
theorem unhex_bad {s : List UInt8} (h : (Oct.unhexS s).2 ≠ 0) : Oct.unhexS s = ([], 4) := by
  unfold Oct.unhexS at *
  split
  · rename_i h1; rw [h1] at h; exact absurd rfl h
  · rfl
theorem raw_nine {s : List UInt8} : Ty.rawS 9 s = (match Ty.unq s with | some b => (b, 0) | none => ([], 4)) := by
  unfold Ty.rawS
  rw [if_pos rfl]
  cases Ty.unq s <;> rfl
theorem raw_no {t : Int} {s : List UInt8} (ht : t ≠ 9) (h : s.getD 0 0 ≠ 35 ∨ s = []) : Ty.rawS t s = ([], 4) := by
  unfold Ty.rawS
  rw [if_neg ht, if_neg]
  intro h1
  cases s with
  | nil => cases h1
  | cons a r =>
    simp at h1
    rcases h with h | h
    · exact h h1
    · cases h
theorem raw_hex {t : Int} {r : List UInt8} (ht : t ≠ 9) : Ty.rawS t (35 :: r) = Oct.unhexS r := by
  unfold Ty.rawS
  rw [if_neg ht, if_pos (show (35 :: r : List UInt8).head? = some 35 from rfl)]
  rfl
set_option maxRecDepth 100000 in
set_option maxHeartbeats 8000000 in
theorem raw_any (t : Int) (s : List UInt8) (w : World) (hs : s.length ≤ 100000) : Calls Tryz.prog 99 #[.int .i64 t, .string (T s)] w (BP (Ty.rawS t s) w) := by
  have hT := T_toList s
  by_cases ht : t = 9
  · subst ht
    have hv := raw_nine (s := s)
    have U := Lib.hid (unquote_any s w (by omega))
    generalize Ty.rawS 9 s = v at *
    generalize Ty.unq s = o at *
    have HV := Lib.hid hv
    clear hv
    go_enter Tryz.func99, Tryz.ntmps99
    go_wp2_with fail
    refine (U.out).mono ?_
    rintro e w1 ⟨A1, n1, c1, b1, hm⟩
    cases o with
    | none =>
      dsimp only at hm
      subst hm
      go_wp2_with fail
      go_ret2
      exact bp_bad HV.out b1
    | some b =>
      dsimp only at hm
      obtain ⟨rfl, ob⟩ := hm
      go_wp2_with fail
      go_ret2
      exact bp_ok HV.out ob.rb.len ob b1
  · have ht1 : (t == 9) = false := by rw [beq_eq_false_iff_ne]; exact ht
    cases s with
    | nil =>
      have HV := Lib.hid (raw_no (s := []) ht (.inr rfl))
      clear ht
      go_enter Tryz.func99, Tryz.ntmps99
      go_wp2_with fail
      go_ret2
      exact bp_bad HV.out (Below.refl _ _)
    | cons a r =>
      have hat := fun w => run_T_at (a :: r) .i64 0 0 rfl (by simp) w
      rw [show (a :: r).getD 0 0 = a from rfl] at hat
      have hne : (a :: r).isEmpty = false := rfl
      by_cases ha : a = 35
      · subst ha
        have HV := Lib.hid (raw_hex (r := r) ht)
        have hcut := fun w => run_T_rest (35 :: r) .i64 1 1 rfl (by simp) w
        rw [show List.drop 1 (35 :: r) = r from rfl] at hcut
        have U := Lib.hid (UnhexT r w (by simp at hs; omega))
        have e1 : (((35 : UInt8).toNat : Int) != 35) = false := rfl
        generalize hsr : (35 :: r : List UInt8) = s at *
        have HSR := Lib.hid hsr
        clear ht hsr
        go_enter Tryz.func99, Tryz.ntmps99
        go_wp2_with fail
        refine (U.out).mono ?_
        rintro e w1 ⟨A1, c1, rfl, o1, b1⟩
        go_wp2_with fail
        go_ret2
        exact bp_ok (by rw [HV.out]) rfl o1 b1
      · have HV := Lib.hid (raw_no (s := a :: r) ht (.inl ha))
        have e1 : ((a.toNat : Int) != 35) = true := by
          rw [bne_iff_ne]
          intro h
          exact ha (UInt8.toNat_inj.1 (by have : (35 : UInt8).toNat = 35 := rfl; omega))
        generalize (a :: r : List UInt8) = s at *
        clear ht ha
        go_enter Tryz.func99, Tryz.ntmps99
        go_wp2_with fail
        go_ret2
        exact bp_bad HV.out (Below.refl _ _)
theorem parse_val (t : Int) (s : List UInt8) : Ty.parseS t s = if (Ty.kd t).name = [] then ([], 15) else if 0 < (Ty.kd t).bits then (if (Ty.parN s).2 ≠ 0 then ([], (Ty.parN s).2) else Ty.encS t (Ty.parN s).1)
  else if (Ty.rawS t s).2 ≠ 0 then ([], (Ty.rawS t s).2) else if Ty.checkS t 256 (Ty.rawS t s).1 ≠ 0 then ([], Ty.checkS t 256 (Ty.rawS t s).1) else ((Ty.rawS t s).1, 0) := rfl
theorem par_range2 (s : List UInt8) : (-9223372036854775808 ≤ (Ty.parN s).1 ∧ (Ty.parN s).1 ≤ 9223372036854775807) ∧ ((Ty.parN s).2 = 0 ∨ (Ty.parN s).2 = 4 ∨ (Ty.parN s).2 = 9) := by
  unfold Ty.parN
  split
  · exact ⟨by decide, .inr (.inl rfl)⟩
  · split
    · exact ⟨by decide, .inr (.inr rfl)⟩
    · rename_i h
      refine ⟨?_, .inl rfl⟩
      split
      · dsimp only; omega
      · rename_i hm
        have hm2 : Ty.minus s = false := by simpa using hm
        have : ¬ (Ty.valD (Ty.rest s) = 9223372036854775808) := fun e => h (.inr ⟨e, hm2⟩)
        dsimp only
        omega
set_option maxRecDepth 100000 in
set_option maxHeartbeats 8000000 in
theorem Parse_anyT (t : Int) (s : List UInt8) (w : World) (hs : s.length ≤ 100000) : Calls Tryz.prog 50 #[.int .i64 t, .string (T s)] w (BP (Ty.parseS t s) w) := by
  have hv := parse_val t s
  have C1 := TKnown_any t w
  have C2 := fun w => TBits_any t w
  have C3 := fun w => number_any s w (by omega)
  have C4 := fun w => raw_any t s w hs
  obtain ⟨⟨p1, p2⟩, p3⟩ := par_range2 s
  have C5 := fun w => Encode_any t (Ty.parN s).1 w p1 p2
  have C6 := fun (A : Option Addr) (n c B : Nat) (w : World) (hb : RB w B A n c (Ty.rawS t s).1) (hB : B ≤ w.heap.size) => Check_any t 256 w hb hB
  unfold knownB at C1
  unfold parRes at C3
  generalize Ty.parN s = pn at *
  obtain ⟨pv, pe⟩ := pn
  dsimp only at hv C3 C5 p1 p2 p3
  generalize Ty.parseS t s = v at *
  generalize Ty.encS t pv = en at *
  generalize Ty.rawS t s = rw_ at *
  obtain ⟨rb, re⟩ := rw_
  dsimp only at hv C6
  generalize Ty.checkS t 256 rb = ck at *
  replace C2 := Lib.hid C2; replace C3 := Lib.hid C3; replace C4 := Lib.hid C4; replace C5 := Lib.hid C5
  have C6' := Lib.hid C6
  clear C6 hs
  by_cases hnm : (Ty.kd t).name = []
  · rw [if_pos hnm] at hv
    rw [hnm] at C1
    simp only [List.isEmpty_nil, Bool.not_true] at C1
    replace C1 := Lib.hid C1
    have HV := Lib.hid hv
    clear hv hnm p3
    go_enter Tryz.func50, Tryz.ntmps50
    go_wp2_with fail
    refine (C1.out).mono ?_
    rintro e w1 ⟨rfl, b1⟩
    go_wp2_with fail
    go_ret2
    exact bp_bad HV.out b1
  · rw [if_neg hnm] at hv
    have h1 : (Ty.kd t).name.isEmpty = false := by simpa using hnm
    rw [h1, Bool.not_false] at C1
    replace C1 := Lib.hid C1
    clear hnm h1
    generalize (Ty.kd t).bits = bt at *
    by_cases hbt : 0 < bt
    · rw [if_pos hbt] at hv
      by_cases hpe : pe = 0
      · subst hpe
        rw [if_neg (by simp)] at hv
        have HV := Lib.hid hv
        clear hv p3
        go_enter Tryz.func50, Tryz.ntmps50
        go_wp2_with fail
        refine (C1.out).mono ?_
        rintro e w1 ⟨rfl, b1⟩
        go_wp2_with fail
        refine (C2.out _).mono ?_
        rintro e w2 ⟨rfl, b2⟩
        have d2 := below_step b1 b2 (Nat.le_refl _)
        go_wp2_with fail
        refine (C3.out _).mono ?_
        rintro e _ ⟨rfl, rfl⟩
        go_wp2_with fail
        refine (C5.out _).mono ?_
        rintro e w3 ⟨A3, c3, rfl, o3, b3⟩
        go_wp2_with fail
        go_ret2
        exact bp_ok (by rw [HV.out]) rfl (o3.more d2.size) (below_step d2 b3 (Nat.le_refl _))
      · rw [if_pos hpe] at hv
        have HV := Lib.hid hv
        have hx : (pe != 0) = true := by simpa using hpe
        clear hv p3 hpe
        go_enter Tryz.func50, Tryz.ntmps50
        go_wp2_with fail
        refine (C1.out).mono ?_
        rintro e w1 ⟨rfl, b1⟩
        go_wp2_with fail
        refine (C2.out _).mono ?_
        rintro e w2 ⟨rfl, b2⟩
        have d2 := below_step b1 b2 (Nat.le_refl _)
        go_wp2_with fail
        refine (C3.out _).mono ?_
        rintro e _ ⟨rfl, rfl⟩
        go_wp2_with fail
        go_ret2
        exact bp_bad HV.out d2
    · rw [if_neg hbt] at hv
      obtain rfl : bt = 0 := by omega
      clear hbt p3
      by_cases hre : re = 0
      · subst hre
        rw [if_neg (by simp)] at hv
        by_cases hck : ck = 0
        · subst hck
          rw [if_neg (by simp)] at hv
          have HV := Lib.hid hv
          clear hv
          go_enter Tryz.func50, Tryz.ntmps50
          go_wp2_with fail
          refine (C1.out).mono ?_
          rintro e w1 ⟨rfl, b1⟩
          go_wp2_with fail
          refine (C2.out _).mono ?_
          rintro e w2 ⟨rfl, b2⟩
          have d2 := below_step b1 b2 (Nat.le_refl _)
          go_wp2_with fail
          refine (C4.out _).mono ?_
          rintro e w3 ⟨A3, c3, rfl, o3, b3⟩
          dsimp only at o3
          have d3 := below_step d2 b3 (Nat.le_refl _)
          have C7 := Lib.hid (C6'.out _ _ _ _ w3 o3.rb (Nat.le_refl _))
          go_wp2_with fail
          refine (C7.out).mono ?_
          rintro e w4 ⟨rfl, b4⟩
          go_wp2_with fail
          go_ret2
          exact bp_ok HV.out rfl ((o3.below b4).more d2.size) (below_step d3 b4 (Nat.le_refl _))
        · rw [if_pos hck] at hv
          have HV := Lib.hid hv
          have hx : (ck != 0) = true := by simpa using hck
          clear hv hck
          go_enter Tryz.func50, Tryz.ntmps50
          go_wp2_with fail
          refine (C1.out).mono ?_
          rintro e w1 ⟨rfl, b1⟩
          go_wp2_with fail
          refine (C2.out _).mono ?_
          rintro e w2 ⟨rfl, b2⟩
          have d2 := below_step b1 b2 (Nat.le_refl _)
          go_wp2_with fail
          refine (C4.out _).mono ?_
          rintro e w3 ⟨A3, c3, rfl, o3, b3⟩
          dsimp only at o3
          have d3 := below_step d2 b3 (Nat.le_refl _)
          have C7 := Lib.hid (C6'.out _ _ _ _ w3 o3.rb (Nat.le_refl _))
          clear o3
          go_wp2_with fail
          refine (C7.out).mono ?_
          rintro e w4 ⟨rfl, b4⟩
          go_wp2_with fail
          go_ret2
          exact bp_bad HV.out (below_step d3 b4 (Nat.le_refl _))
      · rw [if_pos hre] at hv
        have HV := Lib.hid hv
        have hx : (re != 0) = true := by simpa using hre
        have hx2 : (re == 0) = false := by simpa using hre
        clear hv hre
        go_enter Tryz.func50, Tryz.ntmps50
        go_wp2_with fail
        refine (C1.out).mono ?_
        rintro e w1 ⟨rfl, b1⟩
        go_wp2_with fail
        refine (C2.out _).mono ?_
        rintro e w2 ⟨rfl, b2⟩
        have d2 := below_step b1 b2 (Nat.le_refl _)
        go_wp2_with fail
        refine (C4.out _).mono ?_
        rintro e w3 ⟨A3, c3, rfl, o3, b3⟩
        have d3 := below_step d2 b3 (Nat.le_refl _)
        clear o3
        go_wp2_with fail
        go_ret2
        exact bp_bad HV.out d3
end Go.Proofs.YtmolmpgampmolaaGreat
/-
  A dictionary in memory, with its footprint.
  Conditions: none.
-/
namespace Go.Proofs.YtmolmpgampmolaaGreat
set_option linter.unusedVariables false
set_option linter.unusedSimpArgs false
open Go.RowKit
theorem eten : ET Tryz.prog 23 31 11 104 (.agg #[.int .i64 0, .int .i64 0, .string ⟨#[]⟩, .int .i64 0, .int .i64 0, .bool false, .bool false, .int .i64 0, .int .i64 0, .int .i64 0, .slice none 0 0]) := ⟨Tryz.underlying23, info_parts (by kernel_rfl), rfl, by decide⟩
theorem etbs : ET Tryz.prog 97 29 1 24 (.slice none 0 0) := ⟨Tryz.underlying97, info_parts (by kernel_rfl), rfl, by decide⟩
/-- The cells of an entry; its bytes in blocks of F. -/
def EnP (w : World) (F : Nat → Prop) (e : Ent.En) (cs : List Value) : Prop := ∃ A n c, cs = enL e A n c ∧ RBp w F A n c e.dflt
/-- The cell of some bytes. -/
def ByP (w : World) (F : Nat → Prop) (b : List UInt8) (cs : List Value) : Prop := ∃ A n c, cs = [.slice A n c] ∧ RBp w F A n c b
section
variable {F G : Nat → Prop} {w w' : World} {e : Ent.En} {b : List UInt8} {cs : List Value}
theorem EnP.mv (h : EnP w F e cs) (hm : Mv G w w') (hd : ∀ b, b < w.heap.size → F b → ¬ G b) : EnP w' F e cs := by
  obtain ⟨A, n, c, h1, h2⟩ := h
  exact ⟨A, n, c, h1, h2.mv hm hd⟩
theorem EnP.mono (h : EnP w F e cs) (hi : ∀ b, b < w.heap.size → F b → G b) : EnP w G e cs := by
  obtain ⟨A, n, c, h1, h2⟩ := h
  exact ⟨A, n, c, h1, h2.mono hi⟩
theorem ByP.mv (h : ByP w F b cs) (hm : Mv G w w') (hd : ∀ b, b < w.heap.size → F b → ¬ G b) : ByP w' F b cs := by
  obtain ⟨A, n, c, h1, h2⟩ := h
  exact ⟨A, n, c, h1, h2.mv hm hd⟩
theorem ByP.mono (h : ByP w F b cs) (hi : ∀ b, b < w.heap.size → F b → G b) : ByP w G b cs := by
  obtain ⟨A, n, c, h1, h2⟩ := h
  exact ⟨A, n, c, h1, h2.mono hi⟩
end
/-- Blocks of F but two. -/
def Fx (F : Nat → Prop) (g gv : Nat) : Nat → Prop := fun b => F b ∧ b ≠ g ∧ b ≠ gv
/-- A dictionary at block g, its values' row at block gv; t: the type of its block. -/
structure DRt (t : TypeId) (w : World) (F : Nat → Prop) (g gv : Nat) (lA : Option Addr) (lc : Nat) (vA : Option Addr) (vc : Nat) (xs vs : List Value) (D : Dc.Dic) : Prop where
  fg : F g
  ne : g ≠ gv
  blk : Blk w g t #[.slice lA D.l.length lc, .slice vA D.l.length vc]
  row : RVp w (Fx F g gv) 11 lA D.l.length lc xs
  rows : Rows (EnP w (Fx F g gv)) 11 D.l xs
  own : OV w 0 29 1 vA D.l.length vc vs
  at_ : ∀ k, (Value.slice vA D.l.length vc).ownBlock = some k → k = gv ∧ F gv
  vals : Rows (ByP w (Fx F g gv)) 1 D.v vs
  len : D.v.length = D.l.length
  ord : Dc.Ord D.l
  few : D.l.length ≤ 96
  right : ∀ e ∈ D.l, Ent.rightS e = 0
section
variable {t : TypeId} {F G : Nat → Prop} {w w' : World} {g gv lc vc : Nat} {lA vA : Option Addr} {xs vs : List Value} {D : Dc.Dic}
theorem DRt.mv (h : DRt t w F g gv lA lc vA vc xs vs D) (hm : Mv G w w') (hd : ∀ b, b < w.heap.size → F b → ¬ G b) : DRt t w' F g gv lA lc vA vc xs vs D :=
  have hx : ∀ b, b < w.heap.size → Fx F g gv b → ¬ G b := fun b hb hf => hd b hb hf.1
  { fg := h.fg, ne := h.ne, blk := h.blk.mv hm (hd g h.blk.lt h.fg), row := h.row.mv hm hx, rows := h.rows.imp fun _ _ k => k.mv hm hx
    own := by
      refine ⟨h.own.1, ?_⟩
      rcases h.own.2 with h2 | ⟨k, cap, cur, hv, hg, hh, r⟩
      · exact .inl h2
      · have hk := h.at_ k (by rw [hv]; rfl)
        have hlt : k < w.heap.size := (Array.getElem?_eq_some_iff.1 hh).1
        exact .inr ⟨k, cap, cur, hv, hg, (hm.block k hlt (hd k hlt (by rw [hk.1]; exact hk.2))).trans hh, r⟩
    at_ := h.at_, vals := h.vals.imp fun _ _ k => k.mv hm hx, len := h.len, ord := h.ord, few := h.few, right := h.right }
theorem DRt.below (h : DRt t w F g gv lA lc vA vc xs vs D) (hb : Below w.heap.size w w') : DRt t w' F g gv lA lc vA vc xs vs D := h.mv (Mv.of_new hb fun _ => False) fun _ _ _ h => h
theorem DRt.mono (h : DRt t w F g gv lA lc vA vc xs vs D) (hi : ∀ b, b < w.heap.size → F b → G b) : DRt t w G g gv lA lc vA vc xs vs D :=
  have hx : ∀ b, b < w.heap.size → Fx F g gv b → Fx G g gv b := fun b hb hf => ⟨hi b hb hf.1, hf.2⟩
  { fg := hi g h.blk.lt h.fg, ne := h.ne, blk := h.blk, row := h.row.mono hx, rows := h.rows.imp fun _ _ k => k.mono hx, own := h.own
    at_ := fun k hk => ⟨(h.at_ k hk).1, hi gv (by have := (h.own.lt k hk).2; rw [(h.at_ k hk).1] at this; exact this) (h.at_ k hk).2⟩
    vals := h.vals.imp fun _ _ k => k.mono hx, len := h.len, ord := h.ord, few := h.few, right := h.right }
theorem Rows.set_one {α : Type} {R : α → List Value → Prop} {fs : List α} {xs : List Value} (h : Rows R 1 fs xs) {k : Nat} {f : α} {u : Value} (hk : k < fs.length) (hf : R f [u]) : Rows R 1 (fs.set k f) (xs.set k u) := by
  have hl := h.len
  refine ⟨by rw [List.length_set, List.length_set]; exact hl, fun i f' hi => ?_⟩
  rw [List.getElem?_set] at hi
  split at hi
  · rename_i e
    subst e
    first | (rw [if_pos hk] at hi) | skip
    injection hi with hi
    subst hi
    have : ((xs.set k u).drop (k * 1)).take 1 = [u] := by
      have hlt : k < (xs.set k u).length := by rw [List.length_set]; omega
      rw [Nat.mul_one, List.drop_eq_getElem_cons hlt, List.take_succ_cons, List.take_zero, List.getElem_set_self]
    rw [this]
    exact hf
  · rename_i e
    have h1 := h.2 i f' hi
    have : ((xs.set k u).drop (i * 1)).take 1 = (xs.drop (i * 1)).take 1 := by
      apply List.ext_getElem?
      intro j
      rw [List.getElem?_take, List.getElem?_take]
      split
      · rw [List.getElem?_drop, List.getElem?_drop, List.getElem?_set_ne (by omega)]
      · rfl
    rw [this]
    exact h1
/-- A value is set: in place, with bytes that were made. -/
theorem DRt.put {w1 : World} {k n c : Nat} {A : Option Addr} {b : List UInt8} (h : DRt t w F g gv lA lc vA vc xs vs D) (hk : k < D.l.length) (hb : Below w.heap.size w w1) (ho : OB w1 w.heap.size A n c b) :
    DRt t (w1.setCell ⟨gv, k, none⟩ (.slice A n c)) (fun q => F q ∨ (w.heap.size ≤ q ∧ q < w1.heap.size)) g gv lA lc vA vc xs (vs.set k (.slice A n c)) ⟨D.l, D.v.set k b⟩ := by
  have hA : ∃ q, vA = some ⟨q, 0, none⟩ ∧ q < w.heap.size := by
    obtain ⟨q, e, _, hq⟩ := h.own.head (by omega)
    exact ⟨q, e, hq⟩
  obtain ⟨q, rfl, hq⟩ := hA
  obtain ⟨rfl, hFq⟩ := h.at_ q rfl
  have hgl := h.blk.lt
  have h1 := (h.below hb).mono (G := fun q => F q ∨ (w.heap.size ≤ q ∧ q < w1.heap.size)) fun _ _ hf => .inl hf
  have hm : Mv (fun b => b = q) w1 (w1.setCell ⟨q, k, none⟩ (.slice A n c)) := Mv.setCell w1 ⟨q, k, none⟩ _
  have hx : ∀ b, b < w1.heap.size → Fx (fun q => F q ∨ (w.heap.size ≤ q ∧ q < w1.heap.size)) g q b → ¬ b = q := fun b _ hf => hf.2.2
  refine { fg := h1.fg, ne := h1.ne, blk := h1.blk.mv hm h1.ne, row := h1.row.mv hm hx, rows := h1.rows.imp fun _ _ k => k.mv hm hx, own := (h1.own.set k (.slice A n c)).1, at_ := h1.at_, vals := ?_, len := by rw [List.length_set]; exact h1.len, ord := h1.ord, few := h1.few, right := h1.right }
  refine Rows.set_one (h1.vals.imp fun _ _ k => k.mv hm hx) (by rw [h.len]; exact hk) ⟨A, n, c, rfl, ?_⟩
  have hr : RBp w1 (Fx (fun q => F q ∨ (w.heap.size ≤ q ∧ q < w1.heap.size)) g q) A n c b := ho.rbp fun j hj => by
    have h5 := ho.lt j hj
    exact ⟨.inr h5, by omega, by omega⟩
  exact hr.mv hm hx
theorem DRt.two (h : DRt t w F g gv lA lc vA vc xs vs D) : w.cell? ⟨g, 0, none⟩ = some (.slice lA D.l.length lc) ∧ w.cell? ⟨g, 1, none⟩ = some (.slice vA D.l.length vc) := ⟨h.blk.cell 0, h.blk.cell 1⟩
theorem DRt.lcap (h : DRt t w F g gv lA lc vA vc xs vs D) : D.l.length ≤ lc ∧ lc ≤ 9223372036854775807 := ⟨h.row.le, h.row.cap⟩
/-- An entry's cells. -/
theorem DRt.entry (h : DRt t w F g gv lA lc vA vc xs vs D) {i : Nat} (hi : i < D.l.length) : ∃ b o A n c, lA = some ⟨b, o, none⟩ ∧ b < w.heap.size ∧ RB w w.heap.size A n c (D.l.getD i Dc.en0).dflt ∧
    ∀ j u, (enL (D.l.getD i Dc.en0) A n c)[j]? = some u → w.cell? ⟨b, o + i * 11 + j, none⟩ = some u := by
  obtain ⟨b, o, rfl, hF, hb, hc⟩ := h.row.at_ (by omega)
  have hf : D.l[i]? = some (D.l.getD i Dc.en0) := by simp [List.getD, List.getElem?_eq_getElem hi]
  obtain ⟨A, n, c, e, hr⟩ := h.rows.2 i _ hf
  refine ⟨b, o, A, n, c, rfl, hb, hr.rb, fun j u hu => ?_⟩
  rw [← e, List.getElem?_take] at hu
  split at hu
  · rw [List.getElem?_drop] at hu
    rw [Nat.add_assoc]
    exact hc _ u hu
  · cases hu
/-- A value's cell. -/
theorem DRt.value (h : DRt t w F g gv lA lc vA vc xs vs D) {i : Nat} (hi : i < D.l.length) : ∃ A n c, vA = some ⟨gv, 0, none⟩ ∧ F gv ∧ gv < w.heap.size ∧ RB w w.heap.size A n c (D.v.getD i []) ∧ w.cell? ⟨gv, i, none⟩ = some (.slice A n c) ∧ w.frozen? ⟨gv, i, none⟩ = false := by
  obtain ⟨q, rfl, _, hq⟩ := h.own.head (by omega)
  obtain ⟨e1, e2⟩ := h.at_ q (by rfl)
  subst e1
  have hi' : i < D.v.length := by rw [h.len]; exact hi
  have hf : D.v[i]? = some (D.v.getD i []) := by simp [List.getD, List.getElem?_eq_getElem hi']
  obtain ⟨A, n, c, e, hr⟩ := h.vals.2 i _ hf
  refine ⟨A, n, c, rfl, e2, hq, hr.rb, ?_, h.own.free i⟩
  obtain ⟨b, o, e3, _, hc⟩ := h.own.rv.at_ (by omega)
  injection e3 with e3
  injection e3 with e3 e4
  subst e3 e4
  have hu : vs[i]? = some (.slice A n c) := by
    have h0 : ((vs.drop (i * 1)).take 1)[0]? = some (Value.slice A n c) := by rw [e]; rfl
    rw [List.getElem?_take, List.getElem?_drop] at h0
    simpa using h0
  have := hc i _ hu
  rwa [Nat.zero_add] at this
end
end Go.Proofs.YtmolmpgampmolaaGreat
/-
  A dictionary that is being made; entries that are read.
  Conditions: none.
-/
namespace Go.Proofs.YtmolmpgampmolaaGreat
set_option linter.unusedVariables false
set_option linter.unusedSimpArgs false
open Go.RowKit
/-- An entry's cells, its bytes the call's own. -/
def EnB (w : World) (base : Nat) (e : Ent.En) (cs : List Value) : Prop := ∃ A n c, cs = enL e A n c ∧ OB w base A n c e.dflt
def ByB (w : World) (base : Nat) (b : List UInt8) (cs : List Value) : Prop := ∃ A n c, cs = [.slice A n c] ∧ OB w base A n c b
section
variable {w w' : World} {base base' g i e size n c : Nat} {t : TypeId} {A : Option Addr} {l : List UInt8} {xs : List Value} {ds : Array Value} {u : Value}
/-- Bytes of the call's own are kept where rows of another type are written. -/
theorem OB.beside (h : OB w base A n c l) {A' : Option Addr} {n' c' : Nat} {xs' : List Value} (h' : OV w base' e size A' n' c' xs') (hne : e ≠ 5) (hg : w.grownBy w' (Value.slice A' n' c').ownBlock) : OB w' base A n c l := OB.kept h hg (own_own_ne h' h hne)
theorem OB.off (h : OB w base A n c l) (hb : Blk w g t ds) (ht : t ≠ 5) : OB (w.setCell ⟨g, i, none⟩ u) base A n c l :=
  OB.kept h (row := some g) (grown_setCell (World.grownBy.refl _ _) (.inl rfl) u) (.inr (own_blk_ne h hb (Ne.symm ht)))
theorem OV.off (h : OV w base e size A n c xs) (hb : Blk w g t ds) (ht : t ≠ e) : OV (w.setCell ⟨g, i, none⟩ u) base e size A n c xs :=
  OV.kept h (row := some g) (grown_setCell (World.grownBy.refl _ _) (.inl rfl) u) (.inr (own_blk_ne h hb (Ne.symm ht)))
theorem OV.beside (h : OV w base e size A n c xs) {e' size' : Nat} {A' : Option Addr} {n' c' : Nat} {xs' : List Value} (h' : OV w base' e' size' A' n' c' xs') (hne : e' ≠ e) (hg : w.grownBy w' (Value.slice A' n' c').ownBlock) : OV w' base e size A n c xs := OV.kept h hg (own_own_ne h' h hne)
theorem Blk.beside (h : Blk w g t ds) {A' : Option Addr} {n' c' : Nat} {xs' : List Value} (h' : OV w base' e size A' n' c' xs') (hne : e ≠ t) (hg : w.grownBy w' (Value.slice A' n' c').ownBlock) : Blk w' g t ds := h.grown hg (fun q => own_blk_ne h' h hne q.symm)
end
section
variable {w w' : World} {base g i size n c : Nat} {t e' : TypeId} {e : Ent.En} {b : List UInt8} {cs xs : List Value} {A : Option Addr} {ds : Array Value} {u : Value}
theorem EnB.below (h : EnB w base e cs) (hb : Below w.heap.size w w') : EnB w' base e cs := by obtain ⟨A, n, c, h1, h2⟩ := h; exact ⟨A, n, c, h1, h2.below hb⟩
theorem ByB.below (h : ByB w base b cs) (hb : Below w.heap.size w w') : ByB w' base b cs := by obtain ⟨A, n, c, h1, h2⟩ := h; exact ⟨A, n, c, h1, h2.below hb⟩
theorem EnB.beside {base' : Nat} (h : EnB w base e cs) (h' : OV w base' e' size A n c xs) (hne : e' ≠ 5) (hg : w.grownBy w' (Value.slice A n c).ownBlock) : EnB w' base e cs := by obtain ⟨A1, n1, c1, h1, h2⟩ := h; exact ⟨A1, n1, c1, h1, h2.beside h' hne hg⟩
theorem ByB.beside {base' : Nat} (h : ByB w base b cs) (h' : OV w base' e' size A n c xs) (hne : e' ≠ 5) (hg : w.grownBy w' (Value.slice A n c).ownBlock) : ByB w' base b cs := by obtain ⟨A1, n1, c1, h1, h2⟩ := h; exact ⟨A1, n1, c1, h1, h2.beside h' hne hg⟩
theorem EnB.off (h : EnB w base e cs) (hb : Blk w g t ds) (ht : t ≠ 5) : EnB (w.setCell ⟨g, i, none⟩ u) base e cs := by obtain ⟨A1, n1, c1, h1, h2⟩ := h; exact ⟨A1, n1, c1, h1, h2.off hb ht⟩
theorem ByB.off (h : ByB w base b cs) (hb : Blk w g t ds) (ht : t ≠ 5) : ByB (w.setCell ⟨g, i, none⟩ u) base b cs := by obtain ⟨A1, n1, c1, h1, h2⟩ := h; exact ⟨A1, n1, c1, h1, h2.off hb ht⟩
end
/-- A dictionary that is being made, at block g. -/
structure NwM (t : TypeId) (w : World) (base g : Nat) (lA : Option Addr) (kl lc : Nat) (vA : Option Addr) (kv vc : Nat) (es : List Ent.En) (bs : List (List UInt8)) : Prop where
  gb : base ≤ g
  blk : Blk w g t #[.slice lA kl lc, .slice vA kv vc]
  row : OS (EnB w base) w base 31 11 lA kl lc es
  vrow : OS (ByB w base) w base 29 1 vA kv vc bs
section
variable {t : TypeId} {w w' : World} {base g kl lc kv vc : Nat} {lA vA : Option Addr} {es : List Ent.En} {bs : List (List UInt8)}
theorem NwM.below (h : NwM t w base g lA kl lc vA kv vc es bs) (hb : Below w.heap.size w w') : NwM t w' base g lA kl lc vA kv vc es bs :=
  ⟨h.gb, h.blk.later hb, OS.below h.row hb fun _ _ k => k.below hb, OS.below h.vrow hb fun _ _ k => k.below hb⟩
/-- Behind an append to its entries, and the store of the new slice. -/
theorem NwM.addl (h : NwM t w base g lA kl lc vA kv vc es bs) (ht : t ≠ 5) (hte : t ≠ 31) (htv : t ≠ 29) {A1 : Option Addr} {k1 c1 : Nat} {es' : List Ent.En} (hrow : OS (EnB w' base) w' base 31 11 A1 k1 c1 es') (hg : w.grownBy w' (Value.slice lA kl lc).ownBlock) :
    NwM t (w'.setCell ⟨g, 0, none⟩ (.slice A1 k1 c1)) base g A1 k1 c1 vA kv vc es' bs := by
  have hr := h.row
  obtain ⟨xs0, r0, _⟩ := hr
  have hb : Blk w' g t #[.slice lA kl lc, .slice vA kv vc] := h.blk.beside r0 (Ne.symm hte) hg
  refine ⟨h.gb, hb.set_ 0 _, ?_, ?_⟩
  · obtain ⟨ys, o1, o2⟩ := hrow
    exact ⟨ys, o1.off hb hte, o2.imp fun _ _ k => k.off hb ht⟩
  · obtain ⟨ys, o1, o2⟩ := h.vrow
    have o1' := OV.beside o1 r0 (by decide) hg
    exact ⟨ys, o1'.off hb htv, o2.imp fun _ _ k => (k.beside r0 (by decide) hg).off hb ht⟩
theorem NwM.addv (h : NwM t w base g lA kl lc vA kv vc es bs) (ht : t ≠ 5) (hte : t ≠ 31) (htv : t ≠ 29) {A1 : Option Addr} {k1 c1 : Nat} {bs' : List (List UInt8)} (hrow : OS (ByB w' base) w' base 29 1 A1 k1 c1 bs') (hg : w.grownBy w' (Value.slice vA kv vc).ownBlock) :
    NwM t (w'.setCell ⟨g, 1, none⟩ (.slice A1 k1 c1)) base g lA kl lc A1 k1 c1 es bs' := by
  have hr := h.vrow
  obtain ⟨xs0, r0, _⟩ := hr
  have hb : Blk w' g t #[.slice lA kl lc, .slice vA kv vc] := h.blk.beside r0 (Ne.symm htv) hg
  refine ⟨h.gb, hb.set_ 1 _, ?_, ?_⟩
  · obtain ⟨ys, o1, o2⟩ := h.row
    have o1' := OV.beside o1 r0 (by decide) hg
    exact ⟨ys, o1'.off hb hte, o2.imp fun _ _ k => (k.beside r0 (by decide) hg).off hb ht⟩
  · obtain ⟨ys, o1, o2⟩ := hrow
    exact ⟨ys, o1.off hb htv, o2.imp fun _ _ k => k.off hb ht⟩
/-- Made. -/
theorem NwM.made {n : Nat} (h : NwM t w base g lA n lc vA n vc es bs) (ht : t ≠ 5) (hte : t ≠ 31) (htv : t ≠ 29) (hl : es.length = n) (hbs : bs.length = n) (ho : Dc.Ord es) (h96 : n ≤ 96) (hr : ∀ e ∈ es, Ent.rightS e = 0) :
    ∃ gv xs vs, DRt t w (fun q => base ≤ q) g gv lA lc vA vc xs vs ⟨es, bs⟩ := by
  obtain ⟨xs, r1, r2⟩ := h.row
  obtain ⟨vs, v1, v2⟩ := h.vrow
  subst hl
  have hgl := h.blk.lt
  have hgv : ∃ gv, gv ≠ g ∧ (∀ k, (Value.slice vA es.length vc).ownBlock = some k → k = gv) ∧ ∀ {e' size' n' c' : Nat} {A' : Option Addr} {zs : List Value}, OV w base e' size' A' n' c' zs → 29 ≠ e' → ∀ k, (Value.slice A' n' c').ownBlock = some k → k ≠ gv := by
    cases hk : (Value.slice vA es.length vc).ownBlock with
    | none => exact ⟨w.heap.size, by omega, (fun k e => by cases e), (fun ho _ k hk => by have := (ho.lt k hk).2; omega)⟩
    | some q =>
      refine ⟨q, fun e => own_blk_ne v1 h.blk (Ne.symm htv) (by rw [hk, e]), (fun k e => by injection e with e; exact e.symm), fun ho hne k hk2 e => ?_⟩
      rcases own_own_ne v1 ho hne with h5 | h5
      · rw [h5] at hk2; cases hk2
      · exact h5 (by rw [hk2, hk, e])
  obtain ⟨gv, g1, g2, g3⟩ := hgv
  have bytes : ∀ {A : Option Addr} {n c : Nat} {b : List UInt8}, OB w base A n c b → RBp w (Fx (fun q => base ≤ q) g gv) A n c b := fun ho => ho.rbp fun k hk =>
    ⟨(ho.lt k hk).1, fun e => own_blk_ne ho h.blk (Ne.symm ht) (by rw [hk, e]), g3 (A' := _) (zs := _) ho (by decide) k hk⟩
  refine ⟨gv, xs, vs, { fg := h.gb, ne := Ne.symm g1, blk := h.blk, row := r1.rvp fun k hk => ⟨(r1.lt k hk).1, fun e => own_blk_ne r1 h.blk (Ne.symm hte) (by rw [hk, e]), g3 r1 (by decide) k hk⟩, rows := r2.imp fun e cs he => ?_, own := v1.more (Nat.zero_le _), at_ := fun k hk => ?_, vals := v2.imp fun b cs hb => ?_, len := hbs, ord := ho, few := h96, right := hr }⟩
  · obtain ⟨A, n, c, e1, e2⟩ := he
    exact ⟨A, n, c, e1, bytes e2⟩
  · have := g2 k hk
    exact ⟨this, by rw [← this]; exact (v1.lt k hk).1⟩
  · obtain ⟨A, n, c, e1, e2⟩ := hb
    exact ⟨A, n, c, e1, bytes e2⟩
end
/-- An entry's cells, as they are read. -/
def EnC (w : World) (B : Nat) (e : Ent.En) (cs : List Value) : Prop := ∃ A n c, cs = enL e A n c ∧ RB w B A n c e.dflt
/-- Entries that are read; their bytes below B'. -/
def REn (w : World) (B B' : Nat) (A : Option Addr) (n c : Nat) (es : List Ent.En) : Prop := RS (EnC w B') w B 11 A n c es
section
variable {w w' : World} {B B' n c : Nat} {A : Option Addr} {es : List Ent.En}
theorem REn.len (h : REn w B B' A n c es) : es.length = n := RS.len h (by decide)
theorem REn.lt (h : REn w B B' A n c es) : n ≤ 9223372036854775807 := RS.lt h
theorem REn.below (h : REn w B B' A n c es) (hb : Below B w w') (hB : B' ≤ B) : REn w' B B' A n c es := RS.below h hb fun _ _ k => by
  obtain ⟨A, n, c, h1, h2⟩ := k
  exact ⟨A, n, c, h1, h2.below (hb.mono hB)⟩
theorem REn.at_ (h : REn w B B' A n c es) {i : Nat} (hi : i < n) : ∃ b o A1 n1 c1, A = some ⟨b, o, none⟩ ∧ b < B ∧ RB w B' A1 n1 c1 (es.getD i Dc.en0).dflt ∧
    ∀ j u, (enL (es.getD i Dc.en0) A1 n1 c1)[j]? = some u → w.cell? ⟨b, o + i * 11 + j, none⟩ = some u := by
  have hl := h.len
  have hf : es[i]? = some (es.getD i Dc.en0) := by simp [List.getD, List.getElem?_eq_getElem (show i < es.length by omega)]
  obtain ⟨b, o, cs, rfl, hb, ⟨A1, n1, c1, rfl, hr⟩, hc⟩ := RS.at_ h (by decide) hf
  exact ⟨b, o, A1, n1, c1, rfl, hb, hr, fun j u hu => hc j u (by have := (List.getElem?_eq_some_iff.1 hu).1; simpa [enL] using this) hu⟩
end
theorem en_oneCell (e : Ent.En) (A : Option Addr) (n c : Nat) : ∀ u ∈ enL e A n c, u.oneCell' = true := by
  intro u hu
  simp only [enL, List.mem_cons, List.not_mem_nil, or_false] at hu
  rcases hu with rfl | rfl | rfl | rfl | rfl | rfl | rfl | rfl | rfl | rfl | rfl <;> rfl
theorem newF_step {l : List Ent.En} {k n : Nat} (h : k < n) : Dc.newF l (n - k) k = if Ent.rightS (l.getD k Dc.en0) ≠ 0 then (Ent.rightS (l.getD k Dc.en0), k) else if 0 < k ∧ Ent.befB (l.getD (k - 1) Dc.en0) (l.getD k Dc.en0) = false then (16, k) else Dc.newF l (n - (k + 1)) (k + 1) := by
  obtain ⟨m, hm⟩ : ∃ m, n - k = m + 1 := ⟨n - k - 1, by omega⟩
  rw [hm, Dc.newF, show n - (k + 1) = m by omega]
/-- What New hands back: a dictionary, or why there is none. -/
def NewPost (t : TypeId) (es : List Ent.En) (w : World) (e : Ending) (w' : World) : Prop :=
  ((Dc.newS es).1 = 0 ∧ Below w.heap.size w w' ∧ ∃ (g gv lc vc : Nat) (la : Addr) (vA : Option Addr) (xs vs : List Value), e = .returned (.tuple #[.pointer (some ⟨g, 0, none⟩), .int .i64 0, .int .i64 0]) ∧ DRt t w' (fun q => w.heap.size ≤ q) g gv (some la) lc vA vc xs vs ⟨es, es.map (·.dflt)⟩) ∨
  ((Dc.newS es).1 ≠ 0 ∧ Below w.heap.size w w' ∧ e = .returned (.tuple #[.pointer none, .int .i64 (Dc.newS es).1, .int .i64 ((Dc.newS es).2 : Int)]))
theorem new_no {t : TypeId} {es : List Ent.En} {w w' : World} {x y : Int} {q : Nat} (h : Dc.newS es = (x, q)) (hx : x ≠ 0) (hy : y = (q : Int)) (hb : Below w.heap.size w w') : NewPost t es w (.returned (.tuple #[.pointer none, .int .i64 x, .int .i64 y])) w' := by
  subst hy
  exact .inr ⟨by rw [h]; exact hx, hb, by rw [h]⟩
end Go.Proofs.YtmolmpgampmolaaGreat
/-
  Not of this seat.
  Conditions: none.
-/
/-
  Not of this seat.
  Conditions: none.
-/
/-
  Not of this seat.
  Conditions: none.
-/
