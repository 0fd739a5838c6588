/-
  Walks: the closures of Pack and Unpack, and total over them.
  Conditions: none.
-/
import Derived.Test.YtecgahhdbhdplaaBitVal
namespace Go.Proofs.Ytecgahhdbhdplaa
set_option linter.unusedVariables false
set_option linter.unusedSimpArgs false
open Go.RowKit
set_option maxHeartbeats 1000000 in
theorem pack1_any {A : Option Addr} {n c B : Nat} {l : List UInt8} (m : Int) (w : World) (hb : RB w B A n c l) (hn : n ≤ 1000000) (hB : B ≤ w.heap.size) (hm : m ≤ 9223372036854775807) :
    Calls Try.prog 31 #[.agg #[.int .i64 m, .slice A n c]] w fun e w' => e = .returned (.tuple #[.int .i64 m, .bool (Bt.okF ⟨m, l⟩)]) ∧ Below w.heap.size w w' := by
  have b1 := alloc_one w (.cells #[.int .i64 m, .slice A n c] 51)
  have F := (Blk.new w 51 #[.int .i64 m, .slice A n c]).two
  have C := value_any m _ (hb.below (b1.mono hB)) hn (Nat.le_trans hB b1.size) hm
  unfold Bt.okF
  generalize (Bt.valS ⟨m, l⟩).1 = v at *
  generalize (Bt.valS ⟨m, l⟩).2 = x at *
  replace C := Lib.hid C
  clear hb
  go_enter Try.func31, Try.ntmps31
  go_wp2_with fail
  refine (C.out).mono ?_
  rintro e w1 ⟨rfl, b2⟩
  have K := Blk.made b2
  have F2 := K.two
  clear F
  go_wp2_with fail
  go_ret2
  exact ⟨rfl, below_step b1 b2 (Nat.le_refl _)⟩
theorem unpack1_any (m : Int) (w : World) : Calls Try.prog 35 #[.int .i64 m] w fun e w' => e = .returned (.tuple #[.int .i64 m, .bool (Bt.okW m)]) ∧ w = w' := by
  by_cases h1 : 1 ≤ m
  · by_cases h2 : m ≤ 64
    · rw [show Bt.okW m = true from Bt.okW_iff.2 ⟨h1, h2⟩]
      go_enter Try.func35, Try.ntmps35
      go_wp2_with fail
      go_ret2
      exact ⟨rfl, rfl⟩
    · rw [show Bt.okW m = false by unfold Bt.okW; exact decide_eq_false (by omega)]
      go_enter Try.func35, Try.ntmps35
      go_wp2_with fail
      go_ret2
      exact ⟨rfl, rfl⟩
  · rw [show Bt.okW m = false by unfold Bt.okW; exact decide_eq_false (by omega)]
    go_enter Try.func35, Try.ntmps35
    go_wp2_with fail
    go_ret2
    exact ⟨rfl, rfl⟩
theorem tot_bad {ws : List Int} {ok : List Bool} {i : Nat} (hi : i < ok.length) (h : ok.getD i false = false) : Bt.totS ws ok = (0, 1) := by
  unfold Bt.totS
  rw [Bt.all_not hi h]
  rfl
theorem tot_big {ws : List Int} {ok : List Bool} (h : ∀ i, i < ok.length → ok.getD i false = true) (hs : 64 < Bt.sumK ws ws.length) : Bt.totS ws ok = (0, 3) := by
  unfold Bt.totS
  rw [Bt.all_of h, if_pos rfl, if_pos hs]
theorem tot_ok {ws : List Int} {ok : List Bool} (h : ∀ i, i < ok.length → ok.getD i false = true) (hs : Bt.sumK ws ws.length ≤ 64) : Bt.totS ws ok = (Bt.sumK ws ws.length, 0) := by
  unfold Bt.totS
  rw [Bt.all_of h, if_pos rfl, if_neg (by omega)]
def TotPost (p : Int × Int) (w : World) (e : Ending) (w' : World) : Prop := e = .returned (.tuple #[.int .i64 p.1, .int .i64 p.2]) ∧ Below w.heap.size w w'
theorem tot_mk {p : Int × Int} {w w' : World} {a b : Int} (h : p = (a, b)) (hb : Below w.heap.size w w') : TotPost p w (.returned (.tuple #[.int .i64 a, .int .i64 b])) w' := by
  subst h; exact ⟨rfl, hb⟩
/-- What the loop over the first k has: their bits in all, cut at 65. -/
structure TotRel (ws : List Int) (ok : List Bool) (k : Nat) (s : Int) : Prop where
  lo : 0 ≤ s
  hi : s ≤ 65
  sum : s ≤ 64 → s = Bt.sumK ws k
  big : s = 65 → 65 ≤ Bt.sumK ws k
  all : ∀ i, i < k → ok.getD i false = true
theorem tot_start (ws : List Int) (ok : List Bool) : TotRel ws ok 0 0 := ⟨by omega, by omega, fun _ => rfl, fun h => by omega, fun _ h => absurd h (by omega)⟩
theorem TotRel.next {ws : List Int} {ok : List Bool} {k : Nat} {s x : Int} (h : TotRel ws ok k s) (h1 : 1 ≤ x) (hx : ws.getD k 0 = x) (ho : ok.getD k false = true) (s' : Int) (hs : (s + x ≤ 64 ∧ s' = s + x) ∨ (65 ≤ s + x ∧ s' = 65)) : TotRel ws ok (k + 1) s' := by
  have a := h.lo
  have b := h.hi
  refine ⟨by omega, by omega, fun h64 => ?_, fun h65 => ?_, fun i hi => ?_⟩
  · have := h.sum (by omega)
    rw [Bt.sumK, hx]
    omega
  · rw [Bt.sumK, hx]
    by_cases e : s = 65
    · have := h.big e
      omega
    · have := h.sum (by omega)
      omega
  · rcases Nat.lt_or_ge i k with hi' | hi'
    · exact h.all i hi'
    · obtain rfl : i = k := by omega
      exact ho
theorem TotRel.toBig {ws : List Int} {ok : List Bool} {k : Nat} (h : TotRel ws ok k 65) (hw : ws.length = k) (ho : ok.length = k) : Bt.totS ws ok = (0, 3) :=
  tot_big (fun i hi => h.all i (by omega)) (by rw [hw]; have := h.big rfl; omega)
theorem TotRel.fine {ws : List Int} {ok : List Bool} {k : Nat} {s : Int} (h : TotRel ws ok k s) (hw : ws.length = k) (ho : ok.length = k) (hs : s ≤ 64) : Bt.totS ws ok = (s, 0) := by
  have e := h.sum hs
  rw [tot_ok (fun i hi => h.all i (by omega)) (by rw [hw]; omega), hw, ← e]
set_option maxRecDepth 100000 in
set_option maxHeartbeats 2000000 in
theorem total_any {A : Option Addr} {n c B B' : Nat} {fs : List Bt.Fld} (w : World) (h : RFl w B B' A n c fs) (hn : n ≤ 1000000) (hB : B ≤ w.heap.size) (hB' : B' ≤ B) (hsm : ∀ f ∈ fs, f.data.length ≤ 1000000) (hm : ∀ f ∈ fs, f.bits ≤ 9223372036854775807) :
    Calls Try.prog 30 #[.func (.func 31) #[] #[], .slice A n c] w (TotPost (Bt.totS (Bt.bitsOf fs) (fs.map Bt.okF)) w) := by
  have hl := h.len
  go_enter Try.func30, Try.ntmps30
  go_wp2_with fail
  go_loopw [6, 13] (fun v u wr => ∃ (k : Nat) (s : Int), k ≤ n ∧ u = .int .i64 k ∧ v = .int .i64 s ∧ TotRel (Bt.bitsOf fs) (fs.map Bt.okF) k s ∧ Below w.heap.size w wr) (fun _ u _ => n - (intOf u).toNat)
  case atStart => exact ⟨0, 0, by omega, rfl, rfl, tot_start _ _, Below.refl _ _⟩
  case round =>
    obtain ⟨k, s, hk, rfl, rfl, hrel, hbel⟩ := hrel
    have hs1 := hrel.lo
    have hs2 := hrel.hi
    have HREL := Lib.hid hrel; clear hrel
    by_cases hlt : k < n
    · obtain ⟨b, o, A1, n1, c1, rfl, hbB, q0, q1, hr⟩ := (h.below (hbel.mono hB) hB').at_ hlt
      have hmem : fs.getD k Bt.Fld.zero ∈ fs := by
        have : k < fs.length := by omega
        rw [show fs.getD k Bt.Fld.zero = fs[k] by simp [List.getD, this]]
        exact List.getElem_mem this
      have hd := hsm _ hmem
      have hb := hm _ hmem
      have hok := Bt.okF_getD fs k
      have hbi := Bt.bitsOf_getD fs k
      generalize fs.getD k Bt.Fld.zero = f at *
      obtain ⟨m, l⟩ := f
      dsimp only at *
      obtain rfl : l.length = n1 := hr.len
      have b1 := alloc_one wr (.cells #[.int .i64 m, .slice A1 l.length c1] 51)
      have F := (Blk.new wr 51 #[.int .i64 m, .slice A1 l.length c1]).two
      have hz := hbel.size
      have C := pack1_any m _ (hr.below (b1.mono (Nat.le_trans hB' (Nat.le_trans hB hz)))) hd (Nat.le_trans hB' (Nat.le_trans hB (Nat.le_trans hz b1.size))) hb
      have hfb := fun h => Bt.okF_fits (f := ⟨m, l⟩) h
      generalize Bt.okF ⟨m, l⟩ = x at *
      replace C := Lib.hid C
      have HOK := Lib.hid hok; have HBI := Lib.hid hbi
      clear hok hbi hr hmem
      cases x with
      | false =>
        clear hfb
        go_wp2_with fail
        refine (C.out).mono ?_
        rintro e w1 ⟨rfl, b2⟩
        go_wp2_with fail
        go_ret2
        exact tot_mk (tot_bad (i := k) (by rw [List.length_map]; omega) HOK.out) (below_step hbel (below_step b1 b2 (Nat.le_refl _)) (Nat.le_refl _))
      | true =>
        obtain ⟨g1, g2, _⟩ := hfb rfl
        dsimp only at g1 g2
        clear hfb
        go_wp2_with fail
        refine (C.out).mono ?_
        rintro e w1 ⟨rfl, b2⟩
        go_wp2_with fail
        go_roundw
        case rel =>
          refine ⟨k + 1, _, by omega, by go_num, rfl, HREL.out.next g1 HBI.out HOK.out _ ?_, below_step hbel (below_step b1 b2 (Nat.le_refl _)) (Nat.le_refl _)⟩
          split <;> omega
        case measure => simp [intOf] <;> omega
    · obtain rfl : k = n := by omega
      by_cases h65 : s = 65
      · subst h65
        go_wp2_with fail
        go_ret2
        exact tot_mk (HREL.out.toBig (by simpa [Bt.bitsOf] using hl) (by simpa using hl)) hbel
      · have h64 : s ≤ 64 := by omega
        clear h65
        go_wp2_with fail
        go_ret2
        exact tot_mk (HREL.out.fine (by simpa [Bt.bitsOf] using hl) (by simpa using hl) h64) hbel
set_option maxRecDepth 100000 in
set_option maxHeartbeats 2000000 in
theorem totali_any {A : Option Addr} {n c B : Nat} {ws : List Int} (w : World) (h : RI w B A n c ws) (hn : n ≤ 1000000) (hm : ∀ x ∈ ws, x ≤ 9223372036854775807) :
    Calls Try.prog 34 #[.func (.func 35) #[] #[], .slice A n c] w fun e w' => e = .returned (.tuple #[.int .i64 (Bt.totS ws (ws.map Bt.okW)).1, .int .i64 (Bt.totS ws (ws.map Bt.okW)).2]) ∧ w = w' := by
  have hl := h.len
  generalize hres : Bt.totS ws (ws.map Bt.okW) = res
  have HRES := Lib.hid hres; clear hres
  go_enter Try.func34, Try.ntmps34
  go_wp2_with fail
  go_loopw [6, 13] (fun v u wr => ∃ (k : Nat) (s : Int), k ≤ n ∧ u = .int .i64 k ∧ v = .int .i64 s ∧ TotRel ws (ws.map Bt.okW) k s ∧ w = wr) (fun _ u _ => n - (intOf u).toNat)
  case atStart => exact ⟨0, 0, by omega, rfl, rfl, tot_start _ _, rfl⟩
  case round =>
    obtain ⟨k, s, hk, rfl, rfl, hrel, rfl⟩ := hrel
    have hs1 := hrel.lo
    have hs2 := hrel.hi
    have HREL := Lib.hid hrel; clear hrel
    by_cases hlt : k < n
    · obtain ⟨b, o, rfl, hbB, q0⟩ := h.at_ hlt
      have hmem : ws.getD k 0 ∈ ws := by
        have : k < ws.length := by omega
        rw [show ws.getD k 0 = ws[k] by simp [List.getD, this]]
        exact List.getElem_mem this
      have hb := hm _ hmem
      have hok := Bt.okW_getD ws k
      generalize hx : ws.getD k 0 = m at *
      have HX := Lib.hid hx
      have C := unpack1_any m w
      have hfb := fun h => (Bt.okW_iff (w := m)).1 h
      generalize Bt.okW m = x at *
      replace C := Lib.hid C
      have HOK := Lib.hid hok
      clear hok hx hmem
      cases x with
      | false =>
        clear hfb
        go_wp2_with fail
        refine (C.out).mono ?_
        rintro e _ ⟨rfl, rfl⟩
        go_wp2_with fail
        go_ret2
        exact ⟨by rw [← HRES.out, tot_bad (i := k) (by rw [List.length_map]; omega) HOK.out]; rfl, rfl⟩
      | true =>
        obtain ⟨g1, g2⟩ := hfb rfl
        clear hfb
        go_wp2_with fail
        refine (C.out).mono ?_
        rintro e _ ⟨rfl, rfl⟩
        go_wp2_with fail
        go_roundw
        case rel =>
          refine ⟨k + 1, _, by omega, by go_num, rfl, HREL.out.next g1 HX.out HOK.out _ ?_, by trivial⟩
          split <;> omega
        case measure => simp [intOf] <;> omega
    · obtain rfl : k = n := by omega
      by_cases h65 : s = 65
      · subst h65
        go_wp2_with fail
        go_ret2
        exact ⟨by rw [← HRES.out, HREL.out.toBig hl (by simpa using hl)]; rfl, rfl⟩
      · have h64 : s ≤ 64 := by omega
        clear h65
        go_wp2_with fail
        go_ret2
        exact ⟨by rw [← HRES.out, HREL.out.fine hl (by simpa using hl) h64]; rfl, rfl⟩
end Go.Proofs.Ytecgahhdbhdplaa
