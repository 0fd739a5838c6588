/-
  Texts joined: MapCheck, MapNil, RpdChk, MapRight, BitMem, Bit, BitGet, BitVal, BitTot, BitPut.
  Conditions: none.
-/
import Derived.Test.YtkddillihhjghaaGreatJ02
import Derived.Test.YtkddillihhjghaaGreatJ04
import Derived.Test.YtkddillihhjghaaGreatJ05
import Derived.Test.YtkddillihhjghaaGreatJ07
import Derived.Test.YtkddillihhjghaaGreatJ09
import Derived.Test.YtkddillihhjghaaGreatJ10
import Derived.Deep.QuietTactic
import Derived.BigQuiet
/-
  Walks: Check of layer 30.
  Conditions: none.
-/
namespace Go.Proofs.YtkddillihhjghaaGreat
set_option linter.unusedVariables false
set_option linter.unusedSimpArgs false
open Go.RowKit
theorem checkF_step {l : List Ent.En} {inn : Bool} {all : List Nat} {n k : Nat} (hk : k < n) : Mp.checkF l inn all (n - k) k = if Mp.oneS l inn (all.getD k 0) ≠ 0 then Mp.oneS l inn (all.getD k 0) else if 64 < Mp.sizeS (all.take (k + 1)) then 100925506 else Mp.checkF l inn all (n - (k + 1)) (k + 1) := by
  obtain ⟨m, hm⟩ : ∃ m, n - k = m + 1 := ⟨n - k - 1, by omega⟩
  have h2 : n - (k + 1) = m := by omega
  rw [hm, h2]
  rfl
set_option maxRecDepth 100000 in
set_option maxHeartbeats 4000000 in
theorem MCheck_any {F : Nat → Prop} {w : World} {g gv lc vc : Nat} {la : Addr} {vA : Option Addr} {xs vs : List Value} {D : Dc.Dic} {A : Option Addr} {n c B : Nat} {ws : List Nat} (inn : Bool) (h : DRt 71 w F g gv (some la) lc vA vc xs vs D) (hd : ∀ e ∈ D.l, e.dflt.length ≤ 1000000) (hw : RW w B A n c ws) (hwl : ∀ x ∈ ws, x < 4294967296) (hB : B ≤ w.heap.size) : Calls Tryz.prog 37 #[.pointer (some ⟨g, 0, none⟩), .slice A n c, .bool inn] w fun e w' => e = .returned (.int .u32 (Mp.checkS D.l inn ws)) ∧ Below w.heap.size w w' := by
  have hl := hw.len
  have hn9 := hw.lt
  obtain ⟨hnc, hc9⟩ : n ≤ c ∧ c ≤ 9223372036854775807 := ⟨RV.le hw, RV.cap hw⟩
  have hs : Mp.checkS D.l inn ws = if 8 < n then 100925506 else Mp.checkF D.l inn ws n 0 := by unfold Mp.checkS; rw [hl]
  rw [hs]
  by_cases h8 : 8 < n
  · simp only [h8, if_true]
    go_enter Tryz.func37, Tryz.ntmps37
    go_wp2_with fail
    go_ret
    exact ⟨rfl, Below.refl _ _⟩
  · simp only [h8, if_false]
    clear hs
    generalize hg : Mp.checkF D.l inn ws n 0 = r
    have HG := Lib.hid hg
    clear hg
    go_enter Tryz.func37, Tryz.ntmps37
    go_wp2_with fail
    go_loopw [19] (fun i wr => ∃ k : Nat, k ≤ n ∧ i = .int .i64 k ∧ Below w.heap.size w wr ∧ Mp.checkF D.l inn ws (n - k) k = r) (fun i _ => n - (intOf i).toNat)
    case atStart => exact ⟨0, by omega, rfl, Below.refl _ _, HG.out⟩
    case round =>
      obtain ⟨k, hk, rfl, hbel, hrr⟩ := hrel
      by_cases hlt : k < n
      · obtain ⟨b, o, rfl, hbB, q0⟩ := (hw.below (hbel.mono hB)).at_ hlt
        have ON := one_any (ws.getD k 0) (word_lt hwl k) inn (h.below hbel) hd
        have hwT := (hw.below (hbel.mono hB)).take (k := k + 1) (by omega)
        rw [checkF_step hlt] at hrr
        have SZ := fun (w1 : World) (hb : Below wr.heap.size wr w1) => MSize_any w1 (hwT.below (hb.mono (Nat.le_trans hB hbel.size))) (by omega) (fun x hx => hwl x (List.mem_of_mem_take hx))
        generalize Mp.oneS D.l inn (ws.getD k 0) = oo at *
        generalize ws.getD k 0 = x at *
        generalize Mp.sizeS (ws.take (k + 1)) = sz at *
        replace SZ := Lib.hid SZ; replace ON := Lib.hid ON
        by_cases ho : oo = 0
        · subst ho
          simp only [ne_eq, not_true_eq_false, if_false] at hrr
          by_cases h64 : 64 < sz
          · simp only [h64, if_true] at hrr
            subst hrr
            go_wp2_with fail
            refine (ON.out).mono ?_
            rintro e w1 ⟨rfl, b1⟩
            go_wp2_with fail
            refine (SZ.out _ b1).mono ?_
            rintro e w2 ⟨rfl, rfl⟩
            go_wp2_with fail
            go_ret
            exact ⟨rfl, below_step hbel b1 (Nat.le_refl _)⟩
          · simp only [h64, if_false] at hrr
            have HRR := Lib.hid hrr
            clear hrr
            go_wp2_with fail
            refine (ON.out).mono ?_
            rintro e w1 ⟨rfl, b1⟩
            go_wp2_with fail
            refine (SZ.out _ b1).mono ?_
            rintro e w2 ⟨rfl, rfl⟩
            go_wp2_with fail
            go_roundw
            case rel => exact ⟨k + 1, by omega, by go_num, below_step hbel b1 (Nat.le_refl _), HRR.out⟩
            case measure => simp [intOf] <;> omega
        · simp only [ne_eq, ho, not_false_eq_true, if_true] at hrr
          subst hrr
          have ho2 : (oo == 0) = false := by simpa using ho
          have ho3 : (oo != 0) = true := by simpa using ho
          replace ho := Lib.hid ho
          go_wp2_with fail
          refine (ON.out).mono ?_
          rintro e w1 ⟨rfl, b1⟩
          go_wp2_with fail
          go_ret
          exact ⟨rfl, below_step hbel b1 (Nat.le_refl _)⟩
      · obtain rfl : k = n := by omega
        rw [Nat.sub_self] at hrr
        have hrr2 : r = 0 := hrr.symm
        subst hrr2
        go_wp2_with fail
        go_ret
        exact ⟨rfl, hbel⟩
end Go.Proofs.YtkddillihhjghaaGreat
/-
  Walks: Check of layer 30 without a dictionary.
  Conditions: none.
-/
namespace Go.Proofs.YtkddillihhjghaaGreat
set_option linter.unusedVariables false
set_option linter.unusedSimpArgs false
open Go.RowKit
set_option maxHeartbeats 1000000 in
theorem MCheck_nil (A : Option Addr) (n c : Nat) (b : Bool) (w : World) : Calls Tryz.prog 37 #[.pointer none, .slice A n c, .bool b] w fun e w' => e = .returned (.int .u32 100925511) ∧ w = w' := by
  go_enter Tryz.func37, Tryz.ntmps37
  go_wp2_with fail
  go_ret
  exact ⟨rfl, rfl⟩
theorem Calls.grown_same {P : Program} {f : FuncId} {args : Array Value} {w : World} {d : Nat} {os : Array Obj} {v : Value}
    (h : Calls P f args (Go.Sort.grow (redrawn w d) os) fun e w' => e = .returned v ∧ Go.Sort.grow (redrawn w d) os = w') : Calls P f args (Go.Sort.grow (redrawn w d) os) fun e w'' => e = .returned v ∧ ∃ p : Regrown, w'' = Go.Sort.grow (redrawn w p.d) p.os :=
  h.mono fun _ _ ⟨he, hb⟩ => ⟨he, ⟨d, os⟩, hb.symm⟩
set_option maxHeartbeats 1000000 in
theorem MRight_nil (A : Option Addr) (n c : Nat) (b : Bool) (w : World) : Calls Tryz.prog 65 #[.pointer none, .slice A n c, .bool b] w fun e w' => e = .returned (.int .i64 17) ∧ w = w' := by
  go_enter Tryz.func65, Tryz.ntmps65
  go_wp2_with fail
  go_ret
  exact ⟨rfl, rfl⟩
set_option maxHeartbeats 1000000 in
theorem Scatter_nil (A : Option Addr) (n c : Nat) (A' : Option Addr) (n' c' : Nat) (w : World) : Calls Tryz.prog 41 #[.pointer none, .slice A n c, .slice A' n' c'] w fun e w' => e = .returned (.tuple #[.slice none 0 0, .int .i64 17]) ∧ w = w' := by
  have R := Lib.hid (fun w => MRight_nil A n c true w)
  go_enter Tryz.func41, Tryz.ntmps41
  go_wp2_with fail
  refine (R.out _).mono ?_
  rintro e _ ⟨rfl, rfl⟩
  go_wp2_with fail
  go_ret2
  exact ⟨rfl, rfl⟩
end Go.Proofs.YtkddillihhjghaaGreat
/-
  Walks: Check of layer 31.
  Conditions: none.
-/
namespace Go.Proofs.YtkddillihhjghaaGreat
set_option linter.unusedVariables false
set_option linter.unusedSimpArgs false
open Go.RowKit
set_option maxHeartbeats 1000000 in
theorem rkind_any (n : Int) (w : World) : Calls Tryz.prog 36 #[.int .i64 n] w fun e w' => e = .returned (.bool (Rp.kindB n)) ∧ w = w' := by
  by_cases h1 : 0 ≤ n ∧ n ≤ 240
  · rw [show Rp.kindB n = true from decide_eq_true (.inl h1)]
    obtain ⟨h2, h3⟩ := h1
    go_enter Tryz.func36, Tryz.ntmps36
    go_wp2_with fail
    go_ret
    exact ⟨rfl, rfl⟩
  · by_cases h4 : 254 ≤ n ∧ n ≤ 255
    · rw [show Rp.kindB n = true from decide_eq_true (.inr h4)]
      obtain ⟨h2, h3⟩ := h4
      go_enter Tryz.func36, Tryz.ntmps36
      go_wp2_with fail
      go_ret
      exact ⟨rfl, rfl⟩
    · rw [show Rp.kindB n = false from decide_eq_false (by omega)]
      rcases (show n < 0 ∨ (0 ≤ n ∧ 240 < n ∧ n < 254) ∨ (255 < n) by omega) with h | ⟨h, h', h''⟩ | h
      all_goals
        go_enter Tryz.func36, Tryz.ntmps36
        go_wp2_with fail
        go_ret
        exact ⟨by first | rfl | (simp <;> omega), rfl⟩
set_option maxRecDepth 100000 in
set_option maxHeartbeats 2000000 in
theorem RCheck_any {F : Nat → Prop} {w : World} {g gv lc vc : Nat} {la : Addr} {vA : Option Addr} {xs vs : List Value} {D : Dc.Dic} {A : Option Addr} {n c B : Nat} {ws : List Nat} (v : Nat) (hv : v < 4294967296) (t : Int) (h : DRt 71 w F g gv (some la) lc vA vc xs vs D) (hd : ∀ e ∈ D.l, e.dflt.length ≤ 1000000) (hw : RW w B A n c ws) (hwl : ∀ x ∈ ws, x < 4294967296) (hB : B ≤ w.heap.size) :
    Calls Tryz.prog 11 #[.pointer (some ⟨g, 0, none⟩), .agg #[.int .u32 (v : Int), .int .i64 t, .slice A n c]] w fun e w' => e = .returned (.int .u32 (Rp.checkS D.l v t ws)) ∧ Below w.heap.size w w' := by
  have b0 := alloc_one w (.cells #[.int .u32 (v : Int), .int .i64 t, .slice A n c] 39)
  have K := Blk.new w 39 #[.int .u32 (v : Int), .int .i64 t, .slice A n c]
  have F0 := K.three
  have PL := fun w => rplace_any v hv w
  have KD := Lib.hid (fun w => rkind_any t w)
  have CK := fun w1 (hb : Below w.heap.size w w1) => MCheck_any true (h.below hb) hd (hw.below (hb.mono hB)) hwl (Nat.le_trans hB hb.size)
  have hcs : Rp.checkS D.l v t ws = if Cob.place v ≠ 0 then Cob.place v else if Rp.kindB t = false then 101253168 else Mp.checkS D.l true ws := rfl
  rw [hcs]
  clear hcs h hw
  generalize Mp.checkS D.l true ws = r at *
  generalize Cob.place v = pl at *
  generalize Rp.kindB t = kb at *
  replace PL := Lib.hid PL; replace CK := Lib.hid CK
  by_cases hp : pl = 0
  · subst hp
    simp only [ne_eq, not_true_eq_false, if_false]
    cases kb
    · simp only [if_true]
      go_enter Tryz.func11, Tryz.ntmps11
      go_wp2_with fail
      refine (PL.out _).mono ?_
      rintro e w1 ⟨rfl, b1⟩
      have F1 := (K.later b1).three
      clear F0
      go_wp2_with fail
      refine (KD.out _).mono ?_
      rintro e _ ⟨rfl, rfl⟩
      go_wp2_with fail
      go_ret
      exact ⟨rfl, below_step b0 b1 (Nat.le_refl _)⟩
    · simp only [Bool.true_eq_false, if_false]
      go_enter Tryz.func11, Tryz.ntmps11
      go_wp2_with fail
      refine (PL.out _).mono ?_
      rintro e w1 ⟨rfl, b1⟩
      have F1 := (K.later b1).three
      have d1 := below_step b0 b1 (Nat.le_refl _)
      clear F0
      go_wp2_with fail
      refine (KD.out _).mono ?_
      rintro e _ ⟨rfl, rfl⟩
      go_wp2_with fail
      refine (CK.out _ d1).mono ?_
      rintro e w2 ⟨rfl, b2⟩
      go_wp2_with fail
      go_ret
      exact ⟨rfl, below_step d1 b2 (Nat.le_refl _)⟩
  · simp only [ne_eq, hp, not_false_eq_true, if_true]
    have hp2 : (pl == 0) = false := by simpa using hp
    have hp3 : (pl != 0) = true := by simpa using hp
    replace hp := Lib.hid hp
    go_enter Tryz.func11, Tryz.ntmps11
    go_wp2_with fail
    refine (PL.out _).mono ?_
    rintro e w1 ⟨rfl, b1⟩
    go_wp2_with fail
    go_ret
    exact ⟨rfl, below_step b0 b1 (Nat.le_refl _)⟩
set_option maxHeartbeats 1000000 in
theorem RCheck_nil (x y z : Value) (w : World) : Calls Tryz.prog 11 #[.pointer none, .agg #[x, y, z]] w fun e w' => e = .returned (.int .u32 100925511) ∧ Below w.heap.size w w' := by
  go_enter Tryz.func11, Tryz.ntmps11
  go_wp2_with fail
  go_ret
  exact ⟨rfl, alloc_one _ _⟩
end Go.Proofs.YtkddillihhjghaaGreat
/-
  Walks: right of layer 30.
  Conditions: none.
-/
namespace Go.Proofs.YtkddillihhjghaaGreat
set_option linter.unusedVariables false
set_option linter.unusedSimpArgs false
open Go.RowKit
set_option maxRecDepth 100000 in
set_option maxHeartbeats 4000000 in
theorem MRight_any {F : Nat → Prop} {w : World} {g gv lc vc : Nat} {la : Addr} {vA : Option Addr} {xs vs : List Value} {D : Dc.Dic} {A : Option Addr} {n c B : Nat} {ws : List Nat} (inn : Bool) (h : DRt 71 w F g gv (some la) lc vA vc xs vs D) (hd : ∀ e ∈ D.l, e.dflt.length ≤ 1000000) (hw : RW w B A n c ws) (hwl : ∀ x ∈ ws, x < 4294967296) (hB : B ≤ w.heap.size) : Calls Tryz.prog 65 #[.pointer (some ⟨g, 0, none⟩), .slice A n c, .bool inn] w fun e w' => e = .returned (.int .i64 (if Mp.checkS D.l inn ws ≠ 0 then 4 else 0)) ∧ Below w.heap.size w w' := by
  have CK := MCheck_any inn h hd hw hwl hB
  generalize Mp.checkS D.l inn ws = r at *
  replace CK := Lib.hid CK
  by_cases hr : r = 0
  · subst hr
    simp only [ne_eq, not_true_eq_false, if_false]
    go_enter Tryz.func65, Tryz.ntmps65
    go_wp2_with fail
    refine (CK.out).mono ?_
    rintro e w1 ⟨rfl, b1⟩
    go_wp2_with fail
    go_ret
    exact ⟨rfl, b1⟩
  · simp only [ne_eq, hr, not_false_eq_true, if_true]
    have hr2 : (r == 0) = false := by simpa using hr
    have hr3 : (r != 0) = true := by simpa using hr
    replace hr := Lib.hid hr
    go_enter Tryz.func65, Tryz.ntmps65
    go_wp2_with fail
    refine (CK.out).mono ?_
    rintro e w1 ⟨rfl, b1⟩
    go_wp2_with fail
    go_ret
    exact ⟨rfl, b1⟩
end Go.Proofs.YtkddillihhjghaaGreat
/-
  Fields in memory: of the program and of the reference.
  Conditions: none.
-/
namespace Go.Proofs.YtkddillihhjghaaGreat
set_option linter.unusedVariables false
set_option linter.unusedSimpArgs false
open Go.ChangeShapes Go.WideShapes Go.ChangeAt Go.RowKit
/-- The cells of a field. -/
def FlC (w : World) (B : Nat) (f : Bt.Fld) (cs : List Value) : Prop := ∃ A n c, cs = [.int .i64 f.bits, .slice A n c] ∧ RB w B A n c f.data
theorem FlC.keep {w w' : World} {B : Nat} {f : Bt.Fld} {cs : List Value} (hk : ∀ p : Addr, p.block < B → w'.cell? p = w.cell? p) (h : FlC w B f cs) : FlC w' B f cs := by
  obtain ⟨A, n, c, h1, h2⟩ := h
  exact ⟨A, n, c, h1, h2.keep hk⟩
theorem FlC.below {w w' : World} {B : Nat} {f : Bt.Fld} {cs : List Value} (hb : Below B w w') (h : FlC w B f cs) : FlC w' B f cs := h.keep fun _ hp => hb.cell hp
theorem FlC.more {w : World} {B B' : Nat} {f : Bt.Fld} {cs : List Value} (hB : B ≤ B') (h : FlC w B f cs) : FlC w B' f cs := by
  obtain ⟨A, n, c, h1, h2⟩ := h
  exact ⟨A, n, c, h1, h2.more hB⟩
/-- A slice of fields; the bytes of its elements below B'. -/
def RFl (w : World) (B B' : Nat) (A : Option Addr) (n c : Nat) (fs : List Bt.Fld) : Prop := RS (FlC w B') w B 2 A n c fs
section
variable {w w' : World} {B B' n c : Nat} {A : Option Addr} {fs : List Bt.Fld}
theorem RFl.len (h : RFl w B B' A n c fs) : fs.length = n := RS.len h (by decide)
theorem RFl.lt (h : RFl w B B' A n c fs) : n ≤ 9223372036854775807 := RS.lt h
theorem RFl.below (h : RFl w B B' A n c fs) (hb : Below B w w') (hB : B' ≤ B) : RFl w' B B' A n c fs := RS.below h hb fun _ _ h => h.below (hb.mono hB)
theorem RFl.drew (h : RFl w B B' A n c fs) : RFl w.drew B B' A n c fs := RS.keep h (fun _ _ => rfl) fun _ _ h => FlC.keep (w := w) (fun _ _ => rfl) h
theorem RFl.at_ (h : RFl w B B' A n c fs) {i : Nat} (hi : i < n) : ∃ b o A' n' c', A = some ⟨b, o, none⟩ ∧ b < B ∧ w.cell? ⟨b, o + i * 2, none⟩ = some (.int .i64 (fs.getD i Bt.Fld.zero).bits) ∧
    w.cell? ⟨b, o + i * 2 + 1, none⟩ = some (.slice A' n' c') ∧ RB w B' A' n' c' (fs.getD i Bt.Fld.zero).data := by
  have hl := h.len
  have hf : fs[i]? = some (fs.getD i Bt.Fld.zero) := by simp [List.getD, List.getElem?_eq_getElem (show i < fs.length by omega)]
  obtain ⟨b, o, cs, rfl, hb, ⟨A', n', c', rfl, hr⟩, hc⟩ := RS.at_ h (by decide) hf
  exact ⟨b, o, A', n', c', rfl, hb, hc 0 _ (by decide) rfl, hc 1 _ (by decide) rfl, hr⟩
end
/-- A slice of numbers. -/
def RI (w : World) (B : Nat) (A : Option Addr) (n c : Nat) (ws : List Int) : Prop := RV w B 1 A n c (ws.map (Value.int .i64))
section
variable {w w' : World} {B B' n c : Nat} {A : Option Addr} {ws : List Int}
theorem RI.len (h : RI w B A n c ws) : ws.length = n := by have := RV.len h; simpa using this
theorem RI.lt (h : RI w B A n c ws) : n ≤ 9223372036854775807 := Nat.le_trans (RV.le h) (RV.cap h)
theorem RI.below (h : RI w B A n c ws) (hb : Below B w w') : RI w' B A n c ws := RV.below h hb
theorem RI.at_ (h : RI w B A n c ws) {i : Nat} (hi : i < n) : ∃ b o, A = some ⟨b, o, none⟩ ∧ b < B ∧ w.cell? ⟨b, o + i, none⟩ = some (.int .i64 (ws.getD i 0)) := by
  have hl := h.len
  obtain ⟨b, o, rfl, hb, hc⟩ := RV.at_ h (by omega)
  exact ⟨b, o, rfl, hb, hc i _ (by simp [List.getElem?_map, List.getD, show i < ws.length by omega])⟩
end
theorem etfl : ET Tryz.prog 113 121 2 32 (.agg #[.int .i64 0, .slice none 0 0]) := ⟨Tryz.underlying113, info_parts (by kernel_rfl), rfl, by decide⟩
theorem etrfl : ET Tryz.prog 122 125 2 32 (.agg #[.int .i64 0, .slice none 0 0]) := ⟨Tryz.underlying122, info_parts (by kernel_rfl), rfl, by decide⟩
theorem etint : ET Tryz.prog 112 3 1 8 (.int .i64 0) := ⟨Tryz.underlying112, info_parts (by kernel_rfl), rfl, by decide⟩
theorem field_oneCell (f : Int) (A : Option Addr) (m c : Nat) : ∀ u ∈ ([.int .i64 f, .slice A m c] : List Value), u.oneCell' = true := by
  intro u hu
  simp only [List.mem_cons, List.not_mem_nil, or_false] at hu
  rcases hu with rfl | rfl <;> rfl
/-- The cells of a field whose bytes are the call's own. -/
def FlW (w : World) (base : Nat) (f : Bt.Fld) (cs : List Value) : Prop := ∃ A n c, cs = [.int .i64 f.bits, .slice A n c] ∧ OW w base A n c f.data
theorem FlW.below {w w' : World} {base : Nat} {f : Bt.Fld} {cs : List Value} (hb : Below w.heap.size w w') (h : FlW w base f cs) : FlW w' base f cs := by
  obtain ⟨A, n, c, h1, h2⟩ := h
  exact ⟨A, n, c, h1, h2.below hb⟩
theorem FlW.more {w : World} {base base' : Nat} {f : Bt.Fld} {cs : List Value} (hb : base' ≤ base) (h : FlW w base f cs) : FlW w base' f cs := by
  obtain ⟨A, n, c, h1, h2⟩ := h
  exact ⟨A, n, c, h1, h2.more hb⟩
theorem FlW.flc {w : World} {base : Nat} {f : Bt.Fld} {cs : List Value} (h : FlW w base f cs) : FlC w w.heap.size f cs := by
  obtain ⟨A, n, c, h1, h2⟩ := h
  exact ⟨A, n, c, h1, h2.rb⟩
theorem FlW.beside {w w' : World} {base base' e size m c' : Nat} {A' : Option Addr} {xs : List Value} (h' : OV w base' e size A' m c' xs) (hne : e ≠ 5) (hg : w.grownBy w' (Value.slice A' m c').ownBlock) {f : Bt.Fld} {cs : List Value} (h : FlW w base f cs) : FlW w' base f cs := by
  obtain ⟨A, n, c, h1, h2⟩ := h
  exact ⟨A, n, c, h1, h2.beside h' hne hg⟩
section
variable {H : Type} {enc : TypeId × Value → H} {w : World} {spare : Nat → Bool} {held : Bool}
set_option maxRecDepth 100000 in
theorem cells_field {fuel : Nat} {cs : List Value} {x : DataW H × List MemPlace} (h : DataW.trod enc Tryz.prog w 0 spare held fuel 125 cs = some x) : ∃ f, FlC w w.heap.size f cs ∧ (Lit.int .i64 f.bits).wf = true := by
  have h3 : cs.length = 2 := trod_len Tryz.underlying125 h (by kernel_rfl)
  match cs, h3 with
  | [a, d], _ =>
    obtain ⟨_, _, t0⟩ := trod_one Tryz.underlying125 h 0 3 0 a rfl (by kernel_rfl) rfl
    obtain ⟨_, _, t2⟩ := trod_one Tryz.underlying125 h 1 49 1 d rfl (by kernel_rfl) rfl
    obtain ⟨i, rfl, hw⟩ := cell_int Tryz.underlying3 t0
    obtain ⟨A, n, c, l, rfl, hr⟩ := cell_bytes Tryz.underlying49 Tryz.underlying5 (by kernel_rfl) t2
    exact ⟨⟨i, l⟩, ⟨A, n, c, rfl, hr⟩, hw⟩
set_option maxRecDepth 100000 in
theorem open_rfields {r : Reach} {b0 : Nat} {v : Value} {d : DataW H} {p : List MemPlace} (hv : Value.okWide Tryz.prog w r b0 122 v) (h : DataW.Trod enc Tryz.prog w 0 spare held 122 v d p) :
    ∃ (A : Option Addr) (n c : Nat) (fs : List Bt.Fld), v = .slice A n c ∧ RFl w w.heap.size w.heap.size A n c fs ∧ ∀ f ∈ fs, (Lit.int .i64 f.bits).wf = true := by
  obtain ⟨A, n, c, rfl⟩ := okWide_slice Tryz.underlying122 hv
  obtain ⟨fuel, hf⟩ := h
  obtain ⟨fs, xs, hl, h1, h2⟩ := open_rows (fun f cs => FlC w w.heap.size f cs ∧ (Lit.int .i64 f.bits).wf = true) Tryz.underlying122 (show Tryz.prog.cellsOf 125 = 2 by kernel_rfl) (by decide) (fun _ _ _ h => cells_field h) hf
  refine ⟨A, n, c, fs, rfl, ⟨xs, h1, h2.imp fun _ _ h => h.1⟩, fun f hm => ?_⟩
  obtain ⟨i, hi, rfl⟩ := List.getElem_of_mem hm
  exact (h2.2 i _ (List.getElem?_eq_getElem hi)).2
set_option maxRecDepth 100000 in
theorem open_ints {r : Reach} {b0 : Nat} {v : Value} {d : DataW H} {p : List MemPlace} (hv : Value.okWide Tryz.prog w r b0 112 v) (h : DataW.Trod enc Tryz.prog w 0 spare held 112 v d p) :
    ∃ (A : Option Addr) (n c : Nat) (ws : List Int), v = .slice A n c ∧ RI w w.heap.size A n c ws ∧ ∀ x ∈ ws, (Lit.int .i64 x).wf = true := by
  obtain ⟨A, n, c, rfl⟩ := okWide_slice Tryz.underlying112 hv
  obtain ⟨fuel, hf⟩ := h
  obtain ⟨ws, xs, hl, h1, h2⟩ := open_rows (fun (x : Int) cs => cs = [.int .i64 x] ∧ (Lit.int .i64 x).wf = true) Tryz.underlying112 (show Tryz.prog.cellsOf 3 = 1 by kernel_rfl) (by decide) (fun _ cs _ h => by
    have h3 : cs.length = 1 := (DataW.trod_int Tryz.underlying3 h).elim fun z hz => by rw [hz.1]; rfl
    match cs, h3 with
    | [a], _ =>
      obtain ⟨i, rfl, hw⟩ := cell_int Tryz.underlying3 h
      exact ⟨i, rfl, hw⟩) hf
  have e : xs = ws.map (Value.int .i64) := by
    apply List.ext_getElem?
    intro i
    have hx := h2.len
    rw [List.getElem?_map]
    by_cases hi : i < ws.length
    · have := (h2.2 i _ (List.getElem?_eq_getElem hi)).1
      have e0 : ((xs.drop (i * 1)).take 1)[0]? = xs[i]? := by rw [List.getElem?_take, List.getElem?_drop]; simp
      rw [this] at e0
      simp [List.getElem?_eq_getElem hi, ← e0]
    · rw [List.getElem?_eq_none (by omega), List.getElem?_eq_none (by omega)]; rfl
  subst e
  refine ⟨A, n, c, ws, rfl, h1, fun x hm => ?_⟩
  obtain ⟨i, hi, rfl⟩ := List.getElem_of_mem hm
  exact (h2.2 i _ (List.getElem?_eq_getElem hi)).2
end
end Go.Proofs.YtkddillihhjghaaGreat
/-
  Walks: bits.room, wide, Bytes; the reference's Bytes, bit.
  Conditions: none.
-/
namespace Go.Proofs.YtkddillihhjghaaGreat
set_option linter.unusedVariables false
set_option linter.unusedSimpArgs false
open Go.RowKit
theorem ret_bool' {a b : Bool} (h : a = b) : Ending.returned (.bool a) = .returned (.bool b) := by rw [h]
theorem room_any {A : Option Addr} {n c : Nat} (p m : Int) (w : World) (hn : n ≤ 1000000) :
    Calls Tryz.prog 102 #[.slice A n c, .int .i64 p, .int .i64 m] w fun e w' => e = .returned (.int .i64 (Bt.roomS n p m)) ∧ w = w' := by
  unfold Bt.roomS
  by_cases h : m < 1 ∨ 64 < m ∨ p < 0
  · rw [if_pos h]
    rcases (show m < 1 ∨ (1 ≤ m ∧ 64 < m) ∨ (1 ≤ m ∧ m ≤ 64 ∧ p < 0) by omega) with h | ⟨h1, h2⟩ | ⟨h1, h2, h3⟩
    all_goals
      go_enter Tryz.func102, Tryz.ntmps102
      go_wp2_with fail
      go_ret
      exact ⟨rfl, rfl⟩
  · rw [if_neg h]
    have h1 : 1 ≤ m := by omega
    have h2 : m ≤ 64 := by omega
    have h3 : 0 ≤ p := by omega
    clear h
    by_cases h : 8 * (n : Int) < p
    · rw [if_pos (.inl h)]
      go_enter Tryz.func102, Tryz.ntmps102
      go_wp2_with fail
      go_ret
      exact ⟨rfl, rfl⟩
    · by_cases h' : 8 * (n : Int) - p < m
      · rw [if_pos (.inr h')]
        go_enter Tryz.func102, Tryz.ntmps102
        go_wp2_with fail
        go_ret
        exact ⟨rfl, rfl⟩
      · rw [if_neg (by omega)]
        go_enter Tryz.func102, Tryz.ntmps102
        go_wp2_with fail
        go_ret
        exact ⟨rfl, rfl⟩
theorem Bytes_any (m : Int) (w : World) (hm : m ≤ 9223372036854775807) : Calls Tryz.prog 88 #[.int .i64 m] w fun e w' => e = .returned (.int .i64 (Bt.bytesS m)) ∧ w = w' := by
  unfold Bt.bytesS
  by_cases h : m < 1
  · rw [if_pos h]
    go_enter Tryz.func88, Tryz.ntmps88
    go_wp2_with fail
    go_ret
    exact ⟨rfl, rfl⟩
  · rw [if_neg h]
    go_enter Tryz.func88, Tryz.ntmps88
    go_wp2_with fail
    go_ret
    exact ⟨rfl, rfl⟩
theorem RBytes_any (m : Int) (w : World) (hm : m ≤ 9223372036854775807) : Calls Tryz.prog 94 #[.int .i64 m] w fun e w' => e = .returned (.int .i64 (Bt.bytesS m)) ∧ w = w' := by
  unfold Bt.bytesS
  by_cases h : m < 1
  · rw [if_pos h]
    go_enter Tryz.func94, Tryz.ntmps94
    go_wp2_with fail
    go_ret
    exact ⟨rfl, rfl⟩
  · rw [if_neg h]
    by_cases h0 : m % 8 = 0
    · have ht : (m.tmod 8 == 0) = true := by rw [Int.tmod_eq_emod_of_nonneg (by omega), h0]; rfl
      go_enter Tryz.func94, Tryz.ntmps94
      go_wp2_with fail
      go_ret
      exact ⟨ret_int (by omega), rfl⟩
    · have ht : (m.tmod 8 == 0) = false := by rw [Int.tmod_eq_emod_of_nonneg (by omega), beq_eq_false_iff_ne]; exact h0
      go_enter Tryz.func94, Tryz.ntmps94
      go_wp2_with fail
      go_ret
      exact ⟨ret_int (by omega), rfl⟩
set_option maxHeartbeats 400000 in
theorem bit_any {A : Option Addr} {n c B : Nat} {l : List UInt8} (i : Nat) (w : World) (hb : RB w B A n c l) (hi : i / 8 < n) (hi2 : i ≤ 9223372036854775807) :
    Calls Tryz.prog 107 #[.slice A n c, .int .i64 (i : Int)] w fun e w' => e = .returned (.int .u64 (Bt.bt l i : Int)) ∧ w = w' := by
  have hn := hb.lt
  obtain ⟨b, o, rfl, hbB, hc⟩ := hb.at_ (by omega)
  have hcell := hc (i / 8) hi
  have hx := (l.getD (i / 8) 0).toNat_lt
  have hbt : Bt.bt l i = (l.getD (i / 8) 0).toNat / 2 ^ (i % 8) % 2 := rfl
  generalize (l.getD (i / 8) 0).toNat = x at *
  have HB := Lib.hid hbt; clear hbt hc
  have hw : wrap64 (x : Int) = x := by unfold wrap64; omega
  go_enter Tryz.func107, Tryz.ntmps107
  go_wp2_with fail
  go_loopw [5, 6] (fun v u wr => ∃ k : Nat, k ≤ i % 8 ∧ u = .int .i64 k ∧ v = .int .i64 ((x / 2 ^ k : Nat) : Int) ∧ w = wr) (fun _ u _ => i % 8 - (intOf u).toNat)
  case atStart => exact ⟨0, by omega, rfl, by simp, rfl⟩
  case round =>
    obtain ⟨k, hk, rfl, rfl, rfl⟩ := hrel
    have hle : x / 2 ^ k ≤ x := Nat.div_le_self _ _
    have hp : x / 2 ^ k / 2 = x / 2 ^ (k + 1) := by rw [Nat.div_div_eq_div_mul, Nat.pow_succ]
    have HP := Lib.hid hp; clear hp
    by_cases hlt : k < i % 8
    · generalize x / 2 ^ k = y at *
      go_wp2_with fail
      go_roundw
      case rel => exact ⟨k + 1, by omega, by go_num, by rw [← HP.out]; go_num, by trivial⟩
      case measure => simp [intOf] <;> omega
    · obtain rfl : k = i % 8 := by omega
      generalize hy : x / 2 ^ (i % 8) = y at *
      have HY := Lib.hid hy; clear hy
      go_wp2_with fail
      go_ret
      exact ⟨ret_int (by rw [HB.out]; go_num), rfl⟩
end Go.Proofs.YtkddillihhjghaaGreat
/-
  Walks: bits.Get, the reference's Get.
  Conditions: none.
-/
namespace Go.Proofs.YtkddillihhjghaaGreat
set_option linter.unusedVariables false
set_option linter.unusedSimpArgs false
open Go.RowKit
theorem or_bit (x y j k : Nat) (hx : x < 2 ^ 8) (hy : y < 2 ^ k) (hk : k < 64) :
    bits .or .u64 (y : Int) (IntKind.u64.wrap (IntKind.u64.wrap (bits .and .u8 ((x : Int) / 2 ^ j) 1) * 2 ^ k)) = ((y + x / 2 ^ j % 2 * 2 ^ k : Nat) : Int) := by
  have e1 : (x : Int) / 2 ^ j = ((x / 2 ^ j : Nat) : Int) := by simp
  have hle : x / 2 ^ j ≤ x := Nat.div_le_self _ _
  have e2 : bits .and .u8 ((x : Int) / 2 ^ j) 1 = ((x / 2 ^ j % 2 : Nat) : Int) := by
    rw [e1]
    have := u8_and_nat (x / 2 ^ j) 1 (by omega) (by omega)
    rw [Nat.and_one_is_mod] at this
    exact this
  have hb : x / 2 ^ j % 2 < 2 := Nat.mod_lt _ (by decide)
  rw [e2]
  generalize x / 2 ^ j % 2 = z at *
  have hpk : 2 ^ k ≤ 2 ^ 63 := Nat.pow_le_pow_right (by decide) (by omega)
  have hzk : z * 2 ^ k ≤ 1 * 2 ^ k := Nat.mul_le_mul_right _ (by omega)
  have e3 : IntKind.u64.wrap (IntKind.u64.wrap ((z : Nat) : Int) * 2 ^ k) = ((z * 2 ^ k : Nat) : Int) := by
    rw [IntKind.wrap_u64, IntKind.wrap_u64, Int.emod_eq_of_lt (a := (z : Int)) (by omega) (by omega), show (z : Int) * 2 ^ k = ((z * 2 ^ k : Nat) : Int) by simp]
    omega
  rw [e3, u64_or_nat _ _ (by omega) (by omega)]
  congr 1
  rw [Nat.or_comm, Nat.mul_comm z, ← Nat.two_pow_add_eq_or_of_lt hy]
  omega
set_option maxHeartbeats 1000000 in
theorem BGet_bad {A : Option Addr} {n c : Nat} (p m : Int) (w : World) (hn : n ≤ 1000000) (h : Bt.roomS n p m ≠ 0) :
    Calls Tryz.prog 86 #[.slice A n c, .int .i64 p, .int .i64 m] w fun e w' => e = .returned (.tuple #[.int .u64 0, .int .i64 (Bt.roomS n p m)]) ∧ w = w' := by
  have C := Lib.hid (room_any (A := A) (c := c) p m w hn)
  have hz : (Bt.roomS n p m != 0) = true := by simpa using h
  generalize Bt.roomS n p m = z at *
  clear h
  go_enter Tryz.func86, Tryz.ntmps86
  go_wp2_with fail
  refine (C.out).mono ?_
  rintro e _ ⟨rfl, rfl⟩
  go_wp2_with fail
  go_ret2
  exact ⟨rfl, rfl⟩
set_option maxHeartbeats 1000000 in
theorem BGet_ok {A : Option Addr} {n c B : Nat} {l : List UInt8} (p m : Nat) (w : World) (hb : RB w B A n c l) (hn : n ≤ 1000000) (h1 : 1 ≤ m) (h2 : m ≤ 64) (h3 : p + m ≤ 8 * n) :
    Calls Tryz.prog 86 #[.slice A n c, .int .i64 (p : Int), .int .i64 (m : Int)] w fun e w' => e = .returned (.tuple #[.int .u64 (Bt.lowF l p m : Int), .int .i64 0]) ∧ w = w' := by
  have C := room_any (A := A) (c := c) (p : Int) (m : Int) w hn
  rw [show Bt.roomS n p m = 0 by unfold Bt.roomS; rw [if_neg (by omega), if_neg (by omega)]] at C
  replace C := Lib.hid C
  go_enter Tryz.func86, Tryz.ntmps86
  go_wp2_with fail
  refine (C.out).mono ?_
  rintro e _ ⟨rfl, rfl⟩
  go_wp2_with fail
  go_loopw [9, 20] (fun v u wr => ∃ k : Nat, k ≤ m ∧ u = .int .i64 k ∧ v = .int .u64 (Bt.lowF l p k : Int) ∧ w = wr) (fun _ u _ => m - (intOf u).toNat)
  case atStart => exact ⟨0, by omega, rfl, rfl, rfl⟩
  case round =>
    obtain ⟨k, hk, rfl, rfl, rfl⟩ := hrel
    by_cases hlt : k < m
    · obtain ⟨b, o, rfl, hbB, hc⟩ := hb.at_ (show 0 < n by omega)
      have hcell := hc ((p + k) / 8) (by omega)
      have hx := (l.getD ((p + k) / 8) 0).toNat_lt
      have hbt : Bt.bt l (p + k) = (l.getD ((p + k) / 8) 0).toNat / 2 ^ ((p + k) % 8) % 2 := rfl
      have hlo := Bt.lowF_lt l p k
      have hnx : Bt.lowF l p (k + 1) = Bt.lowF l p k + Bt.bt l (p + k) * 2 ^ k := rfl
      generalize (l.getD ((p + k) / 8) 0).toNat = x at *
      generalize Bt.lowF l p k = y at *
      have HB := Lib.hid hbt; have HN := Lib.hid hnx; have HL := Lib.hid hlo; clear hbt hnx hlo hc
      go_wp2_with fail
      go_roundw
      case rel =>
        refine ⟨k + 1, by omega, by go_num, ?_, by trivial⟩
        rw [HN.out, HB.out]
        exact congrArg _ (or_bit x y ((p + k) % 8) k hx HL.out (by omega))
      case measure => simp [intOf] <;> omega
    · obtain rfl : k = m := by omega
      go_wp2_with fail
      go_ret2
      exact ⟨rfl, rfl⟩
set_option maxHeartbeats 1000000 in
theorem RBGet_bad {A : Option Addr} {n c : Nat} (p m : Int) (w : World) (hn : n ≤ 1000000) (h : Bt.roomS n p m ≠ 0) :
    Calls Tryz.prog 93 #[.slice A n c, .int .i64 p, .int .i64 m] w fun e w' => e = .returned (.tuple #[.int .u64 0, .int .i64 (Bt.roomS n p m)]) ∧ w = w' := by
  unfold Bt.roomS at h ⊢
  by_cases h0 : m < 1 ∨ 64 < m ∨ p < 0
  · rw [if_pos h0]
    clear h
    rcases (show m < 1 ∨ (1 ≤ m ∧ 64 < m) ∨ (1 ≤ m ∧ m ≤ 64 ∧ p < 0) by omega) with h | ⟨h1, h2⟩ | ⟨h1, h2, h3⟩
    all_goals
      clear h0
      go_enter Tryz.func93, Tryz.ntmps93
      go_wp2_with fail
      go_ret2
      exact ⟨rfl, rfl⟩
  · rw [if_neg h0] at h ⊢
    have h1 : 1 ≤ m := by omega
    have h2 : m ≤ 64 := by omega
    have h3 : 0 ≤ p := by omega
    clear h0
    by_cases h4 : 8 * (n : Int) < p
    · rw [if_pos (.inl h4)]
      clear h
      go_enter Tryz.func93, Tryz.ntmps93
      go_wp2_with fail
      go_ret2
      exact ⟨rfl, rfl⟩
    · by_cases h' : 8 * (n : Int) - p < m
      · rw [if_pos (.inr h')]
        clear h
        go_enter Tryz.func93, Tryz.ntmps93
        go_wp2_with fail
        go_ret2
        exact ⟨rfl, rfl⟩
      · exact absurd (if_neg (by omega)) h
set_option maxHeartbeats 1000000 in
theorem RBGet_ok {A : Option Addr} {n c B : Nat} {l : List UInt8} (p m : Nat) (w : World) (hb : RB w B A n c l) (hn : n ≤ 1000000) (h1 : 1 ≤ m) (h2 : m ≤ 64) (h3 : p + m ≤ 8 * n) :
    Calls Tryz.prog 93 #[.slice A n c, .int .i64 (p : Int), .int .i64 (m : Int)] w fun e w' => e = .returned (.tuple #[.int .u64 (Bt.lowF l p m : Int), .int .i64 0]) ∧ w = w' := by
  have hU := Bt.upF_all l p m
  have HU := Lib.hid hU; clear hU
  go_enter Tryz.func93, Tryz.ntmps93
  go_wp2_with fail
  go_loopw [8, 9] (fun v u wr => ∃ k : Nat, k ≤ m ∧ u = .int .i64 ((m : Int) - 1 - k) ∧ v = .int .u64 (Bt.upF l p m k : Int) ∧ w = wr) (fun _ u _ => (intOf u + 1).toNat)
  case atStart => exact ⟨0, by omega, by go_num, rfl, rfl⟩
  case round =>
    obtain ⟨k, hk, rfl, rfl, rfl⟩ := hrel
    by_cases hlt : k < m
    · have hlo := Bt.upF_lt l p m k
      have hpk : 2 ^ k ≤ 2 ^ 63 := Nat.pow_le_pow_right (by decide) (by omega)
      have hb2 := Bt.bt_lt l (p + (m - 1 - k))
      have hC := bit_any (p + (m - 1 - k)) w hb (by omega) (by omega)
      have hnx : Bt.upF l p m (k + 1) = 2 * Bt.upF l p m k + Bt.bt l (p + (m - 1 - k)) := rfl
      rw [show ((p + (m - 1 - k) : Nat) : Int) = (p : Int) + ((m : Int) - 1 - k) by omega] at hC
      have hy : Bt.upF l p m k < 2 ^ 63 := by omega
      generalize Bt.upF l p m k = y at *
      generalize Bt.bt l (p + (m - 1 - k)) = z at *
      have C := Lib.hid hC; have HN := Lib.hid hnx; clear hC hnx hlo hpk
      go_wp2_with fail
      refine (C.out).mono ?_
      rintro e _ ⟨rfl, rfl⟩
      go_wp2_with fail
      go_roundw
      case rel => exact ⟨k + 1, by omega, by go_num, by rw [HN.out]; go_num, by trivial⟩
      case measure => simp [intOf] <;> omega
    · obtain rfl : k = m := by omega
      go_wp2_with fail
      go_ret2
      exact ⟨by rw [HU.out]; rfl, rfl⟩
end Go.Proofs.YtkddillihhjghaaGreat
/-
  Walks: bits.value, the reference's number; the closures of Pack and Unpack.
  Conditions: none.
-/
namespace Go.Proofs.YtkddillihhjghaaGreat
set_option linter.unusedVariables false
set_option linter.unusedSimpArgs false
open Go.RowKit
theorem cut_all (l : List UInt8) : Oct.cut l 0 l.length = l := by simp [Oct.cut]
/-- The bytes of a number from the highest one down: k of them. -/
theorem le_down (l : List UInt8) (k : Nat) (h : k < l.length) : Oct.le (l.drop (l.length - 1 - k)) = 256 * Oct.le (l.drop (l.length - k)) + (l.getD (l.length - 1 - k) 0).toNat := by
  have e : l.drop (l.length - 1 - k) = l.getD (l.length - 1 - k) 0 :: l.drop (l.length - k) := by
    rw [List.drop_eq_getElem_cons (show l.length - 1 - k < l.length by omega), show l.length - 1 - k + 1 = l.length - k by omega]
    simp [List.getD, show l.length - 1 - k < l.length by omega]
  rw [e, Oct.le]
  omega
theorem wide_shift (v j : Nat) (h : (j : Int) < 64) : (((v : Nat) : Int) / 2 ^ j == 0) = !Bt.wideS v (j : Int) := by
  unfold Bt.wideS
  have e : (v : Int) / 2 ^ j = ((v / 2 ^ j : Nat) : Int) := by simp
  rw [e, show decide ((j : Int) < 64) = true from decide_eq_true h, Bool.true_and, Int.toNat_natCast]
  generalize v / 2 ^ j = x
  rw [Bool.eq_iff_iff]
  simp only [beq_iff_eq, Bool.not_eq_true', bne_eq_false_iff_eq]
  omega
end Go.Proofs.YtkddillihhjghaaGreat
/-
  Walks: the closures of Pack and Unpack, and total over them.
  Conditions: none.
-/
namespace Go.Proofs.YtkddillihhjghaaGreat
set_option linter.unusedVariables false
set_option linter.unusedSimpArgs false
open Go.RowKit
theorem unpack1_any (m : Int) (w : World) : Calls Tryz.prog 85 #[.int .i64 m] w fun e w' => e = .returned (.tuple #[.int .i64 m, .bool (Bt.okW m)]) ∧ w = w' := by
  by_cases h1 : 1 ≤ m
  · by_cases h2 : m ≤ 64
    · rw [show Bt.okW m = true from Bt.okW_iff.2 ⟨h1, h2⟩]
      go_enter Tryz.func85, Tryz.ntmps85
      go_wp2_with fail
      go_ret2
      exact ⟨rfl, rfl⟩
    · rw [show Bt.okW m = false by unfold Bt.okW; exact decide_eq_false (by omega)]
      go_enter Tryz.func85, Tryz.ntmps85
      go_wp2_with fail
      go_ret2
      exact ⟨rfl, rfl⟩
  · rw [show Bt.okW m = false by unfold Bt.okW; exact decide_eq_false (by omega)]
    go_enter Tryz.func85, Tryz.ntmps85
    go_wp2_with fail
    go_ret2
    exact ⟨rfl, rfl⟩
theorem tot_bad {ws : List Int} {ok : List Bool} {i : Nat} (hi : i < ok.length) (h : ok.getD i false = false) : Bt.totS ws ok = (0, 1) := by
  unfold Bt.totS
  rw [Bt.all_not hi h]
  rfl
theorem tot_big {ws : List Int} {ok : List Bool} (h : ∀ i, i < ok.length → ok.getD i false = true) (hs : 64 < Bt.sumK ws ws.length) : Bt.totS ws ok = (0, 3) := by
  unfold Bt.totS
  rw [Bt.all_of h, if_pos rfl, if_pos hs]
theorem tot_ok {ws : List Int} {ok : List Bool} (h : ∀ i, i < ok.length → ok.getD i false = true) (hs : Bt.sumK ws ws.length ≤ 64) : Bt.totS ws ok = (Bt.sumK ws ws.length, 0) := by
  unfold Bt.totS
  rw [Bt.all_of h, if_pos rfl, if_neg (by omega)]
def TotPost (p : Int × Int) (w : World) (e : Ending) (w' : World) : Prop := e = .returned (.tuple #[.int .i64 p.1, .int .i64 p.2]) ∧ Below w.heap.size w w'
theorem tot_mk {p : Int × Int} {w w' : World} {a b : Int} (h : p = (a, b)) (hb : Below w.heap.size w w') : TotPost p w (.returned (.tuple #[.int .i64 a, .int .i64 b])) w' := by
  subst h; exact ⟨rfl, hb⟩
/-- What the loop over the first k has: their bits in all, cut at 65. -/
structure TotRel (ws : List Int) (ok : List Bool) (k : Nat) (s : Int) : Prop where
  lo : 0 ≤ s
  hi : s ≤ 65
  sum : s ≤ 64 → s = Bt.sumK ws k
  big : s = 65 → 65 ≤ Bt.sumK ws k
  all : ∀ i, i < k → ok.getD i false = true
theorem tot_start (ws : List Int) (ok : List Bool) : TotRel ws ok 0 0 := ⟨by omega, by omega, fun _ => rfl, fun h => by omega, fun _ h => absurd h (by omega)⟩
theorem TotRel.next {ws : List Int} {ok : List Bool} {k : Nat} {s x : Int} (h : TotRel ws ok k s) (h1 : 1 ≤ x) (hx : ws.getD k 0 = x) (ho : ok.getD k false = true) (s' : Int) (hs : (s + x ≤ 64 ∧ s' = s + x) ∨ (65 ≤ s + x ∧ s' = 65)) : TotRel ws ok (k + 1) s' := by
  have a := h.lo
  have b := h.hi
  refine ⟨by omega, by omega, fun h64 => ?_, fun h65 => ?_, fun i hi => ?_⟩
  · have := h.sum (by omega)
    rw [Bt.sumK, hx]
    omega
  · rw [Bt.sumK, hx]
    by_cases e : s = 65
    · have := h.big e
      omega
    · have := h.sum (by omega)
      omega
  · rcases Nat.lt_or_ge i k with hi' | hi'
    · exact h.all i hi'
    · obtain rfl : i = k := by omega
      exact ho
theorem TotRel.toBig {ws : List Int} {ok : List Bool} {k : Nat} (h : TotRel ws ok k 65) (hw : ws.length = k) (ho : ok.length = k) : Bt.totS ws ok = (0, 3) :=
  tot_big (fun i hi => h.all i (by omega)) (by rw [hw]; have := h.big rfl; omega)
theorem TotRel.fine {ws : List Int} {ok : List Bool} {k : Nat} {s : Int} (h : TotRel ws ok k s) (hw : ws.length = k) (ho : ok.length = k) (hs : s ≤ 64) : Bt.totS ws ok = (s, 0) := by
  have e := h.sum hs
  rw [tot_ok (fun i hi => h.all i (by omega)) (by rw [hw]; omega), hw, ← e]
set_option maxRecDepth 100000 in
set_option maxHeartbeats 2000000 in
theorem totali_any {A : Option Addr} {n c B : Nat} {ws : List Int} (w : World) (h : RI w B A n c ws) (hn : n ≤ 1000000) (hm : ∀ x ∈ ws, x ≤ 9223372036854775807) :
    Calls Tryz.prog 84 #[.func (.func 85) #[] #[], .slice A n c] w fun e w' => e = .returned (.tuple #[.int .i64 (Bt.totS ws (ws.map Bt.okW)).1, .int .i64 (Bt.totS ws (ws.map Bt.okW)).2]) ∧ w = w' := by
  have hl := h.len
  generalize hres : Bt.totS ws (ws.map Bt.okW) = res
  have HRES := Lib.hid hres; clear hres
  go_enter Tryz.func84, Tryz.ntmps84
  go_wp2_with fail
  go_loopw [6, 13] (fun v u wr => ∃ (k : Nat) (s : Int), k ≤ n ∧ u = .int .i64 k ∧ v = .int .i64 s ∧ TotRel ws (ws.map Bt.okW) k s ∧ w = wr) (fun _ u _ => n - (intOf u).toNat)
  case atStart => exact ⟨0, 0, by omega, rfl, rfl, tot_start _ _, rfl⟩
  case round =>
    obtain ⟨k, s, hk, rfl, rfl, hrel, rfl⟩ := hrel
    have hs1 := hrel.lo
    have hs2 := hrel.hi
    have HREL := Lib.hid hrel; clear hrel
    by_cases hlt : k < n
    · obtain ⟨b, o, rfl, hbB, q0⟩ := h.at_ hlt
      have hmem : ws.getD k 0 ∈ ws := by
        have : k < ws.length := by omega
        rw [show ws.getD k 0 = ws[k] by simp [List.getD, this]]
        exact List.getElem_mem this
      have hb := hm _ hmem
      have hok := Bt.okW_getD ws k
      generalize hx : ws.getD k 0 = m at *
      have HX := Lib.hid hx
      have C := unpack1_any m w
      have hfb := fun h => (Bt.okW_iff (w := m)).1 h
      generalize Bt.okW m = x at *
      replace C := Lib.hid C
      have HOK := Lib.hid hok
      clear hok hx hmem
      cases x with
      | false =>
        clear hfb
        go_wp2_with fail
        refine (C.out).mono ?_
        rintro e _ ⟨rfl, rfl⟩
        go_wp2_with fail
        go_ret2
        exact ⟨by rw [← HRES.out, tot_bad (i := k) (by rw [List.length_map]; omega) HOK.out]; rfl, rfl⟩
      | true =>
        obtain ⟨g1, g2⟩ := hfb rfl
        clear hfb
        go_wp2_with fail
        refine (C.out).mono ?_
        rintro e _ ⟨rfl, rfl⟩
        go_wp2_with fail
        go_roundw
        case rel =>
          refine ⟨k + 1, _, by omega, by go_num, rfl, HREL.out.next g1 HX.out HOK.out _ ?_, by trivial⟩
          split <;> omega
        case measure => simp [intOf] <;> omega
    · obtain rfl : k = n := by omega
      by_cases h65 : s = 65
      · subst h65
        go_wp2_with fail
        go_ret2
        exact ⟨by rw [← HRES.out, HREL.out.toBig hl (by simpa using hl)]; rfl, rfl⟩
      · have h64 : s ≤ 64 := by omega
        clear h65
        go_wp2_with fail
        go_ret2
        exact ⟨by rw [← HRES.out, HREL.out.fine hl (by simpa using hl) h64]; rfl, rfl⟩
end Go.Proofs.YtkddillihhjghaaGreat
/-
  Walks: bits.Put, the reference's Put.
  Conditions: none.
-/
namespace Go.Proofs.YtkddillihhjghaaGreat
set_option linter.unusedVariables false
set_option linter.unusedSimpArgs false
open Go.RowKit
theorem test_bit (v k : Nat) (hv : v < 18446744073709551616) : (bits .and .u64 ((v : Int) / 2 ^ k) 1 == 1) = v.testBit k := by
  have e1 : (v : Int) / 2 ^ k = ((v / 2 ^ k : Nat) : Int) := by simp
  have hle : v / 2 ^ k ≤ v := Nat.div_le_self _ _
  have e2 : bits .and .u64 ((v : Int) / 2 ^ k) 1 = ((v / 2 ^ k % 2 : Nat) : Int) := by
    rw [e1]
    have := u64_and_nat (v / 2 ^ k) 1 (by omega) (by omega)
    rw [Nat.and_one_is_mod] at this
    exact this
  rw [e2, Nat.testBit_eq_decide_div_mod_eq]
  rw [Bool.eq_iff_iff]
  simp only [beq_iff_eq, decide_eq_true_eq]
  omega
theorem pow_byte {j : Nat} (hj : j < 8) : (2 : Int) ^ j % 256 = ((2 ^ j : Nat) : Int) ∧ 2 ^ j < 256 := by
  have h : 2 ^ j ≤ 2 ^ 7 := Nat.pow_le_pow_right (by decide) (by omega)
  have e : (2 : Int) ^ j = ((2 ^ j : Nat) : Int) := by simp
  rw [e]
  generalize 2 ^ j = q at *
  omega
theorem or_byte (c : UInt8) (j : Nat) (hj : j < 8) : bits .or .u8 (c.toNat : Int) ((2 : Int) ^ j % 256) = ((Bt.sb c j true).toNat : Int) := by
  obtain ⟨e, hlt⟩ := pow_byte hj
  have hc := c.toNat_lt
  have ho : c.toNat ||| 2 ^ j < 2 ^ 8 := Nat.or_lt_two_pow hc hlt
  rw [e, u8_or_nat _ _ (by omega) hlt, Bt.sb, if_pos rfl, UInt8.toNat_ofNat', Nat.mod_eq_of_lt ho]
theorem andNot_byte (c : UInt8) (j : Nat) (hj : j < 8) : bits .andNot .u8 (c.toNat : Int) ((2 : Int) ^ j % 256) = ((Bt.sb c j false).toNat : Int) := by
  obtain ⟨e, hlt⟩ := pow_byte hj
  have hc := c.toNat_lt
  have ho : c.toNat &&& (255 - 2 ^ j) < 2 ^ 8 := Nat.lt_of_le_of_lt Nat.and_le_left hc
  rw [e, u8_andNot_nat _ _ (by omega) hlt, Bt.sb, if_neg (by decide), UInt8.toNat_ofNat', Nat.mod_eq_of_lt ho]
theorem room_range (n : Nat) (p m : Int) : Bt.roomS n p m = 1 ∨ (1 ≤ m ∧ m ≤ 64 ∧ 0 ≤ p ∧ (Bt.roomS n p m = 2 ∨ (Bt.roomS n p m = 0 ∧ p + m ≤ 8 * (n : Int)))) := by
  unfold Bt.roomS
  by_cases h : m < 1 ∨ 64 < m ∨ p < 0
  · rw [if_pos h]; exact .inl rfl
  · rw [if_neg h]
    right
    refine ⟨by omega, by omega, by omega, ?_⟩
    by_cases h' : 8 * (n : Int) < p ∨ 8 * (n : Int) - p < m
    · rw [if_pos h']; exact .inl rfl
    · rw [if_neg h']; exact .inr ⟨rfl, by omega⟩
end Go.Proofs.YtkddillihhjghaaGreat
