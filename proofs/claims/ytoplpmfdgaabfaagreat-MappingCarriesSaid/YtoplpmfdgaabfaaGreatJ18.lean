/-
  Texts joined: DicPut, DicRFind, EntLent, EntRR0, EntRRT.
  Conditions: none.
-/
import Derived.Test.YtoplpmfdgaabfaaGreatJ04
import Derived.Test.YtoplpmfdgaabfaaGreatJ05
import Derived.Test.YtoplpmfdgaabfaaGreatJ06
import Derived.Test.YtoplpmfdgaabfaaGreatJ08
import Derived.Test.YtoplpmfdgaabfaaGreatJ09
import Derived.Test.YtoplpmfdgaabfaaGreatJ16
/-
  Walks: put, Poke of layer 15.
  Conditions: none.
-/
namespace Go.Proofs.YtoplpmfdgaabfaaGreat
set_option linter.unusedVariables false
set_option linter.unusedSimpArgs false
open Go.RowKit
/-- A value that was poked, or not. -/
def PokeP {t : TypeId} (D : Dc.Dic) (x y : Int) (b : List UInt8) (w : World) (F : Nat → Prop) (g gv : Nat) (lA : Option Addr) (lc : Nat) (vA : Option Addr) (vc : Nat) (xs : List Value) (e : Ending) (w' : World) : Prop :=
  e = .returned (.int .u32 (Dc.mayS D.l true x y b)) ∧ Mv (fun q => q = gv) w w' ∧ ∃ vs', DRt t w' (fun q => F q ∨ (w.heap.size ≤ q ∧ q < w'.heap.size)) g gv lA lc vA vc xs vs' (Dc.pokeS D x y b)
theorem poke_no {t : TypeId} {D : Dc.Dic} {x y : Int} {b : List UInt8} {w w' : World} {F : Nat → Prop} {g gv lc vc : Nat} {lA vA : Option Addr} {xs vs : List Value} (h : DRt t w F g gv lA lc vA vc xs vs D) (hb : Below w.heap.size w w') {z : Int} (hz : z = Dc.mayS D.l true x y b) (hp : Dc.pokeS D x y b = D) :
    PokeP (t := t) D x y b w F g gv lA lc vA vc xs (.returned (.int .u32 z)) w' := by
  subst hz
  refine ⟨rfl, Mv.of_new hb _, vs, ?_⟩
  rw [hp]
  exact (h.below hb).mono fun _ _ hf => .inl hf
set_option maxRecDepth 100000 in
set_option maxHeartbeats 4000000 in
theorem dput_any {F : Nat → Prop} {w : World} {g gv lc vc : Nat} {la : Addr} {vA : Option Addr} {xs vs : List Value} {D : Dc.Dic} (x y : Int) {A' : Option Addr} {n' c' B : Nat} {b : List UInt8} (h : DRt 89 w F g gv (some la) lc vA vc xs vs D) (hb : RB w B A' n' c' b) (hB : B ≤ w.heap.size) (hn : n' < 140737488355328) : Calls Tryz.prog 47 #[.pointer (some ⟨g, 0, none⟩), .int .i64 x, .int .i64 y, .slice A' n' c', .bool true] w (PokeP (t := 89) D x y b w F g gv (some la) lc vA vc xs) := by
  have M := dmay_any true x y h hb hB
  have hz0 := mayP_snd D.l true x y b
  cases hf : Dc.findS D.l x y with
  | none =>
    have hp : Dc.pokeS D x y b = D := by unfold Dc.pokeS; rw [hf]
    have hv : (mayP D.l true x y b).2 ≠ 0 := by
      unfold mayP
      rw [hf]
      dsimp only
      split <;> decide
    generalize (mayP D.l true x y b).2 = z at *
    have ez : (z == 0) = false := beq_false_of_ne hv
    replace M := Lib.hid M
    have HP := Lib.hid hp; have HZ := Lib.hid hz0
    clear hp hz0 hv hf
    go_enter Tryz.func47, Tryz.ntmps47
    go_wp2_with fail
    refine (M.out).mono ?_
    rintro e w1 ⟨rfl, b1⟩
    go_wp2_with fail
    go_ret
    exact poke_no h b1 HZ.out HP.out
  | some k =>
    have hk := (Dc.find_some hf).2.1
    have hm : mayP D.l true x y b = ((k : Int), Ent.valS (D.l.getD k Dc.en0) b) := by unfold mayP; rw [hf]; simp
    rw [hm] at M hz0
    dsimp only at M hz0
    by_cases hv : Ent.valS (D.l.getD k Dc.en0) b = 0
    · have hp : Dc.pokeS D x y b = ⟨D.l, D.v.set k b⟩ := by unfold Dc.pokeS; rw [hf]; dsimp only; rw [if_pos hv]
      rw [hv] at M hz0
      replace M := Lib.hid M
      have HP := Lib.hid hp; have HZ := Lib.hid hz0
      clear hp hz0 hv hf hm
      obtain ⟨t0, t1⟩ := h.two
      obtain ⟨A, n, c, hA, hF, hg, hr, hcell, hfr⟩ := h.value hk
      subst hA
      have hcap : D.l.length ≤ vc ∧ vc ≤ 9223372036854775807 := ⟨h.own.rv.le, h.own.rv.cap⟩
      have HC := Lib.hid hcap
      have hgl := h.blk.lt
      have HM : Hid (∀ {w1 : World} {n c : Nat} {A : Option Addr}, Below w.heap.size w w1 → OB w1 w.heap.size A n c b → DRt 89 (w1.setCell ⟨gv, k, none⟩ (.slice A n c)) (fun q => F q ∨ (w.heap.size ≤ q ∧ q < w1.heap.size)) g gv (some la) lc (some ⟨gv, 0, none⟩) vc xs (vs.set k (.slice A n c)) ⟨D.l, D.v.set k b⟩) := Lib.hid fun h1 h2 => h.put hk h1 h2
      clear hcap hr h
      generalize hmm : D.l.length = m at *
      have HMM := Lib.hid hmm
      clear hmm
      go_enter Tryz.func47, Tryz.ntmps47
      go_wp2_with fail
      refine (M.out).mono ?_
      rintro e w1 ⟨rfl, b1⟩
      have OWN := Lib.hid (down_any w1.drew (hb.below (b1.drew.mono hB)) hn (Nat.le_trans hB b1.drew.size))
      have t1' : w1.cell? ⟨g, 1, none⟩ = _ := (b1.cell (p := ⟨g, 1, none⟩) hgl).trans t1
      have T1 := cell_regrown t1'
      have i0 : (0 : Int) ≤ (k : Int) := by omega
      have i1 : (k : Int) < (m : Int) := by omega
      clear t0 t1 t1'
      go_wp2_with fail
      refine region_laterL 8 (by kernel_rfl) ?_
      refine phase_laterL (by kernel_rfl) 3 (below_drew _) [0, 4, 5, 1, 2, 3] rfl (by kernel_rfl) ?_
      simp only [picks, nth]
      repeat (go_big_quiet_step (fail))
      refine wpQuiet_nil ?_
      refine phase_opL 6 2 rfl (by kernel_rfl) (by decide) ?_
      simp only [nth]
      go_wp2_with fail
      refine (OWN.out).mono ?_
      rintro e w3 ⟨A3, c3, rfl, o3, b3⟩
      have b3' : Below w1.heap.size w1 w3 := (below_drew w1).trans b3
      go_wp2_with fail
      refine behind_laterL b3' ?_
      refine phase_laterL (by kernel_rfl) 1 (Below.refl _ _) [7] rfl (by kernel_rfl) ?_
      simp only [picks, nth]
      repeat (go_big_quiet_step (fail))
      refine wpQuiet_nil ?_
      have d3 := below_step b1 b3' (Nat.le_refl _)
      have e3 := (d3.cell (p := ⟨gv, k, none⟩) hg).trans hcell
      have f3 := (d3.frozen (p := ⟨gv, k, none⟩) hg).trans hfr
      refine phase_last 0 rfl (by kernel_rfl) (by decide) (by kernel_rfl) ?_
      simp only [nth]
      go_wp2_with fail
      refine behind_last ?_
      go_wp2_with fail
      go_ret
      have o3' : OB w3 w.heap.size A3 n' c3 b := o3.more b1.drew.size
      have hput := HM.out (w1 := w3) d3 o3'
      have M2 : Mv (fun q => q = gv) w (w3.setCell ⟨gv, k, none⟩ (.slice A3 n' c3)) := (Mv.of_new d3 _).trans (Mv.setCell w3 ⟨gv, k, none⟩ (.slice A3 n' c3)) fun b _ h => h
      refine ⟨by rw [← HZ.out]; rfl, M2, vs.set k (.slice A3 n' c3), ?_⟩
      rw [HP.out]
      exact hput.mono fun q hq hf => by
        rcases hf with hf | hf
        · exact .inl hf
        · exact .inr ⟨hf.1, by simpa [World.setCell] using hf.2⟩
    · have hp : Dc.pokeS D x y b = D := by unfold Dc.pokeS; rw [hf]; dsimp only; rw [if_neg hv]
      generalize Ent.valS (D.l.getD k Dc.en0) b = z at *
      have ez : (z == 0) = false := beq_false_of_ne hv
      replace M := Lib.hid M
      have HP := Lib.hid hp; have HZ := Lib.hid hz0
      clear hp hz0 hv hf hm
      go_enter Tryz.func47, Tryz.ntmps47
      go_wp2_with fail
      refine (M.out).mono ?_
      rintro e w1 ⟨rfl, b1⟩
      go_wp2_with fail
      go_ret
      exact poke_no h b1 HZ.out HP.out
set_option maxRecDepth 100000 in
set_option maxHeartbeats 4000000 in
theorem dPoke_any {F : Nat → Prop} {w : World} {g gv lc vc : Nat} {la : Addr} {vA : Option Addr} {xs vs : List Value} {D : Dc.Dic} (x y : Int) {A' : Option Addr} {n' c' B : Nat} {b : List UInt8} (h : DRt 89 w F g gv (some la) lc vA vc xs vs D) (hb : RB w B A' n' c' b) (hB : B ≤ w.heap.size) (hn : n' < 140737488355328) : Calls Tryz.prog 20 #[.pointer (some ⟨g, 0, none⟩), .int .i64 x, .int .i64 y, .slice A' n' c'] w (PokeP (t := 89) D x y b w F g gv (some la) lc vA vc xs) := by
  have M := Lib.hid (dput_any x y h hb hB hn)
  clear h hb
  go_enter Tryz.func20, Tryz.ntmps20
  go_wp2_with fail
  refine (M.out).mono ?_
  rintro e w1 ⟨rfl, h1, vs', h2⟩
  go_wp2_with fail
  go_ret
  exact ⟨rfl, h1, vs', h2⟩
end Go.Proofs.YtoplpmfdgaabfaaGreat
/-
  Walks: Find, missing, Poke of layer 15's reference, Lent of layer 14's.
  Conditions: none.
-/
namespace Go.Proofs.YtoplpmfdgaabfaaGreat
set_option linter.unusedVariables false
set_option linter.unusedSimpArgs false
open Go.RowKit
namespace Dc
def rfK (l : List Ent.En) (x y : Int) : Nat → Int
  | 0 => -2
  | i + 1 => if (l.getD i en0).index ≠ x then rfK l x y i else if (l.getD i en0).sub = y then (i : Int) else if rfK l x y i = -2 then -1 else rfK l x y i
theorem rfK_spec {l : List Ent.En} (ho : Ord l) {x y : Int} : ∀ i, i ≤ l.length →
    (∃ k : Nat, k < i ∧ (l.getD k en0).index = x ∧ (l.getD k en0).sub = y ∧ rfK l x y i = (k : Int)) ∨
    ((∀ k : Nat, k < i → ¬ ((l.getD k en0).index = x ∧ (l.getD k en0).sub = y)) ∧ (∃ k : Nat, k < i ∧ (l.getD k en0).index = x) ∧ rfK l x y i = -1) ∨
    ((∀ k : Nat, k < i → (l.getD k en0).index ≠ x) ∧ rfK l x y i = -2)
  | 0, _ => .inr (.inr ⟨fun k hk => absurd hk (by omega), rfl⟩)
  | i + 1, hi => by
    have ih := rfK_spec ho i (by omega) (x := x) (y := y)
    by_cases h1 : (l.getD i en0).index = x
    · by_cases h2 : (l.getD i en0).sub = y
      · refine .inl ⟨i, by omega, h1, h2, ?_⟩
        rw [rfK, if_neg (by simpa using h1), if_pos h2]
      · rw [rfK, if_neg (by simpa using h1), if_neg h2]
        rcases ih with ⟨k, k1, k2, k3, k4⟩ | ⟨k1, k2, k3⟩ | ⟨k1, k2⟩
        · refine .inl ⟨k, by omega, k2, k3, ?_⟩
          rw [k4, if_neg (by omega)]
        · right; left
          refine ⟨fun k hk => ?_, ⟨i, by omega, h1⟩, by rw [k3]; rfl⟩
          rcases Nat.lt_or_ge k i with h | h
          · exact k1 k h
          · obtain rfl : k = i := by omega
            exact fun h => h2 h.2
        · right; left
          refine ⟨fun k hk => ?_, ⟨i, by omega, h1⟩, by rw [k2]; rfl⟩
          rcases Nat.lt_or_ge k i with h | h
          · exact fun h3 => k1 k h h3.1
          · obtain rfl : k = i := by omega
            exact fun h => h2 h.2
    · rw [rfK, if_pos h1]
      rcases ih with ⟨k, k1, k2, k3, k4⟩ | ⟨k1, ⟨j, j1, j2⟩, k3⟩ | ⟨k1, k2⟩
      · exact .inl ⟨k, by omega, k2, k3, k4⟩
      · right; left
        refine ⟨fun k hk => ?_, ⟨j, by omega, j2⟩, k3⟩
        rcases Nat.lt_or_ge k i with h | h
        · exact k1 k h
        · obtain rfl : k = i := by omega
          exact fun h => h1 h.1
      · right; right
        refine ⟨fun k hk => ?_, k2⟩
        rcases Nat.lt_or_ge k i with h | h
        · exact k1 k h
        · obtain rfl : k = i := by omega
          exact h1
theorem rfK_all {l : List Ent.En} (ho : Ord l) (x y : Int) : rfK l x y l.length = rfind l x y := by
  unfold rfind
  rcases rfK_spec ho l.length (Nat.le_refl _) (x := x) (y := y) with ⟨k, k1, k2, k3, k4⟩ | ⟨k1, ⟨j, j1, j2⟩, k3⟩ | ⟨k1, k2⟩
  · cases h : findS l x y with
    | none => exact absurd ⟨k2, k3⟩ (find_none ho h k1)
    | some m =>
      obtain ⟨_, m2, m3, m4⟩ := find_some h
      rw [k4]
      have : k = m := by
        rcases Nat.lt_trichotomy k m with h1 | h1 | h1
        · have := ord_lt2 ho h1 m2; unfold Lt at this; omega
        · exact h1
        · have := ord_lt2 ho h1 k1; unfold Lt at this; omega
      rw [this]
  · cases h : findS l x y with
    | none =>
      dsimp only
      rw [if_pos (by unfold inB; rw [List.any_eq_true]; exact ⟨l.getD j en0, by rw [List.getD_eq_getElem?_getD, List.getElem?_eq_getElem j1]; exact List.getElem_mem j1, by simpa using j2⟩), k3]
    | some m =>
      obtain ⟨_, m2, m3, m4⟩ := find_some h
      exact absurd ⟨m3, m4⟩ (k1 m m2)
  · cases h : findS l x y with
    | none =>
      dsimp only
      rw [if_neg, k2]
      intro hi
      unfold inB at hi
      rw [List.any_eq_true] at hi
      obtain ⟨e, he, hx⟩ := hi
      obtain ⟨j, hj, rfl⟩ := List.getElem_of_mem he
      have := k1 j hj
      rw [List.getD_eq_getElem?_getD, List.getElem?_eq_getElem hj] at this
      exact this (by simpa using hx)
    | some m =>
      obtain ⟨_, m2, m3, m4⟩ := find_some h
      exact absurd m3 (k1 m m2)
end Dc
set_option maxRecDepth 100000 in
set_option maxHeartbeats 4000000 in
theorem rFind_any {F : Nat → Prop} {w : World} {g gv lc vc : Nat} {lA vA : Option Addr} {xs vs : List Value} {D : Dc.Dic} (x y : Int) (h : DRt 85 w F g gv lA lc vA vc xs vs D) : Calls Tryz.prog 37 #[.pointer (some ⟨g, 0, none⟩), .int .i64 x, .int .i64 y] w fun e w' => e = .returned (.int .i64 (Dc.rfind D.l x y)) ∧ w = w' := by
  obtain ⟨t0, t1⟩ := h.two
  have hfew := h.few
  have hcap := h.lcap
  have HRES : Hid (Dc.rfK D.l x y D.l.length = Dc.rfind D.l x y) := Lib.hid (Dc.rfK_all h.ord x y)
  generalize Dc.rfind D.l x y = res at *
  go_enter Tryz.func37, Tryz.ntmps37
  go_wp2_with fail
  go_loop [7, 8] (fun v i => ∃ k : Nat, k ≤ D.l.length ∧ i = .int .i64 k ∧ v = .int .i64 (Dc.rfK D.l x y k)) (fun _ i => D.l.length - (intOf i).toNat)
  case atStart => exact ⟨0, by omega, rfl, rfl⟩
  case round =>
    obtain ⟨k, hk, rfl, rfl⟩ := hrel
    by_cases hlt : k < D.l.length
    · obtain ⟨b, o, A, n, c, hA, hbB, hr, hc⟩ := h.entry hlt
      have c0 := hc 0 _ rfl
      have c1 := hc 1 _ rfl
      have hst : Dc.rfK D.l x y (k + 1) = if (D.l.getD k Dc.en0).index ≠ x then Dc.rfK D.l x y k else if (D.l.getD k Dc.en0).sub = y then (k : Int) else if Dc.rfK D.l x y k = -2 then -1 else Dc.rfK D.l x y k := rfl
      generalize hix : (D.l.getD k Dc.en0).index = ix at *
      generalize hsb : (D.l.getD k Dc.en0).sub = sb at *
      generalize hcur : Dc.rfK D.l x y k = cur at *
      subst hA
      simp only [Nat.add_zero] at c0
      clear hc hr hix hsb
      by_cases h1 : ix = x
      · rw [if_neg (by simpa using h1)] at hst
        subst h1
        have e1 : (ix != ix) = false := by simp
        by_cases h2 : sb = y
        · rw [if_pos h2] at hst
          subst h2
          have e2 : (sb == sb) = true := by simp
          have HST := Lib.hid hst
          clear hst hcur
          by_cases h3 : cur = -2
          · subst h3
            go_wp2_with fail
            go_round
            case rel => exact ⟨k + 1, by omega, by go_num, by rw [HST.out]⟩
            case measure => simp [intOf] <;> omega
          · have e3 : (cur == -2) = false := beq_false_of_ne h3
            clear h3
            go_wp2_with fail
            go_round
            case rel => exact ⟨k + 1, by omega, by go_num, by rw [HST.out]⟩
            case measure => simp [intOf] <;> omega
        · rw [if_neg h2] at hst
          have e2 : (sb == y) = false := beq_false_of_ne h2
          by_cases h3 : cur = -2
          · subst h3
            rw [if_pos rfl] at hst
            have HST := Lib.hid hst
            clear hst hcur h2
            go_wp2_with fail
            go_round
            case rel => exact ⟨k + 1, by omega, by go_num, by rw [HST.out]⟩
            case measure => simp [intOf] <;> omega
          · rw [if_neg h3] at hst
            have e3 : (cur == -2) = false := beq_false_of_ne h3
            have HST := Lib.hid hst
            clear hst hcur h2 h3
            go_wp2_with fail
            go_round
            case rel => exact ⟨k + 1, by omega, by go_num, by rw [HST.out]⟩
            case measure => simp [intOf] <;> omega
      · rw [if_pos h1] at hst
        have e1 : (ix != x) = true := by simpa using h1
        have HST := Lib.hid hst
        clear hst hcur h1
        go_wp2_with fail
        go_round
        case rel => exact ⟨k + 1, by omega, by go_num, by rw [HST.out]⟩
        case measure => simp [intOf] <;> omega
    · obtain rfl : k = D.l.length := by omega
      go_wp2_with fail
      go_ret
      exact ⟨by rw [← HRES.out]; rfl, rfl⟩
set_option maxRecDepth 100000 in
set_option maxHeartbeats 4000000 in
theorem missing_any (k : Int) (w : World) : Calls Tryz.prog 48 #[.int .i64 k] w fun e w' => e = .returned (.int .u32 (if k = -2 then 100794368 else 101253137)) ∧ w = w' := by
  by_cases h : k = -2
  · subst h
    go_enter Tryz.func48, Tryz.ntmps48
    go_wp2_with fail
    go_ret
    exact ⟨rfl, rfl⟩
  · rw [if_neg h]
    have e1 : (k == -2) = false := beq_false_of_ne h
    clear h
    go_enter Tryz.func48, Tryz.ntmps48
    go_wp2_with fail
    go_ret
    exact ⟨rfl, rfl⟩
theorem rpoke_code {D : Dc.Dic} {x y : Int} {b : List UInt8} (hf : Dc.findS D.l x y = none) : (if Dc.rfind D.l x y = -2 then (100794368 : Int) else 101253137) = Dc.mayS D.l true x y b := by
  unfold Dc.rfind Dc.mayS
  rw [hf]
  dsimp only
  cases Dc.inB D.l x <;> rfl
set_option maxRecDepth 100000 in
set_option maxHeartbeats 4000000 in
theorem rPoke_any {F : Nat → Prop} {w : World} {g gv lc vc : Nat} {lA vA : Option Addr} {xs vs : List Value} {D : Dc.Dic} (x y : Int) {A' : Option Addr} {n' c' B : Nat} {b : List UInt8} (h : DRt 85 w F g gv lA lc vA vc xs vs D) (hb : RB w B A' n' c' b) (hB : B ≤ w.heap.size) (hn : n' < 140737488355328) : Calls Tryz.prog 21 #[.pointer (some ⟨g, 0, none⟩), .int .i64 x, .int .i64 y, .slice A' n' c'] w (PokeP (t := 85) D x y b w F g gv lA lc vA vc xs) := by
  have FD := rFind_any x y h
  cases hf : Dc.findS D.l x y with
  | none =>
    have hp : Dc.pokeS D x y b = D := by unfold Dc.pokeS; rw [hf]
    have MS := fun w => missing_any (Dc.rfind D.l x y) w
    rw [rpoke_code (b := b) hf] at MS
    have hneg : Dc.rfind D.l x y < 0 := by unfold Dc.rfind; rw [hf]; dsimp only; split <;> omega
    generalize Dc.rfind D.l x y = rf at *
    replace FD := Lib.hid FD; replace MS := Lib.hid MS
    have HP := Lib.hid hp
    have hd : decide (rf < 0) = true := decide_eq_true hneg
    clear hp hf hneg
    go_enter Tryz.func21, Tryz.ntmps21
    go_wp2_with fail
    refine (FD.out).mono ?_
    rintro e w1 ⟨rfl, rfl⟩
    go_wp2_with fail
    refine (MS.out _).mono ?_
    rintro e w2 ⟨rfl, rfl⟩
    go_wp2_with fail
    go_ret
    exact poke_no h (Below.refl _ _) rfl HP.out
  | some k =>
    have hk := (Dc.find_some hf).2.1
    have hm : Dc.mayS D.l true x y b = Ent.valS (D.l.getD k Dc.en0) b := by unfold Dc.mayS; rw [hf]; simp
    have hrf : Dc.rfind D.l x y = (k : Int) := by unfold Dc.rfind; rw [hf]
    rw [hrf] at FD
    replace FD := Lib.hid FD
    obtain ⟨t0, t1⟩ := h.two
    obtain ⟨bb, o, Ae, ne, ce, hAe, hbB, hre, hc⟩ := h.entry hk
    have hlc := h.lcap
    have V := RValue_any (D.l.getD k Dc.en0) Ae ne ce w hb hB
    unfold enV at V
    have c0 := hc 0 _ rfl
    have c1 := hc 1 _ rfl
    have c2 := hc 2 _ rfl
    have c3 := hc 3 _ rfl
    have c4 := hc 4 _ rfl
    have c5 := hc 5 _ rfl
    have c6 := hc 6 _ rfl
    have c7 := hc 7 _ rfl
    have c8 := hc 8 _ rfl
    have c9 := hc 9 _ rfl
    have c10 := hc 10 _ rfl
    simp only [Nat.add_zero] at c0
    subst hAe
    by_cases hv : Ent.valS (D.l.getD k Dc.en0) b = 0
    · have hp : Dc.pokeS D x y b = ⟨D.l, D.v.set k b⟩ := by unfold Dc.pokeS; rw [hf]; dsimp only; rw [if_pos hv]
      rw [hv] at V hm
      replace V := Lib.hid V
      have HP := Lib.hid hp; have HZ := Lib.hid hm
      obtain ⟨A, n, c, hA, hF, hg, hr, hcell, hfr⟩ := h.value hk
      subst hA
      have hcap : D.l.length ≤ vc ∧ vc ≤ 9223372036854775807 := ⟨h.own.rv.le, h.own.rv.cap⟩
      have HC := Lib.hid hcap; have HLC := Lib.hid hlc
      have hgl := h.blk.lt
      have HM : Hid (∀ {w1 : World} {n c : Nat} {A : Option Addr}, Below w.heap.size w w1 → OB w1 w.heap.size A n c b → DRt 85 (w1.setCell ⟨gv, k, none⟩ (.slice A n c)) (fun q => F q ∨ (w.heap.size ≤ q ∧ q < w1.heap.size)) g gv (some ⟨bb, o, none⟩) lc (some ⟨gv, 0, none⟩) vc xs (vs.set k (.slice A n c)) ⟨D.l, D.v.set k b⟩) := Lib.hid fun h1 h2 => h.put hk h1 h2
      clear hp hv hf hm hrf hcap hlc hr hre hc h
      generalize hmm : D.l.length = m at *
      have HMM := Lib.hid hmm
      clear hmm
      generalize D.l.getD k Dc.en0 = e0 at *
      go_enter Tryz.func21, Tryz.ntmps21
      go_wp2_with fail
      refine (FD.out).mono ?_
      rintro e w ⟨rfl, rfl⟩
      have i0 : (0 : Int) ≤ (k : Int) := by omega
      have i1 : (k : Int) < (m : Int) := by omega
      go_wp2_with fail
      refine (V.out).mono ?_
      rintro e w1 ⟨rfl, b1⟩
      have J := Lib.hid (Join_any w1.drew (RB.none_ (B := 0)) (hb.below (b1.drew.mono hB)) (by omega) (Nat.zero_le _) (Nat.le_trans hB b1.drew.size))
      have T1 := cell_regrown ((b1.cell (p := ⟨g, 1, none⟩) hgl).trans t1)
      clear t0 t1
      go_wp2_with fail
      refine region_laterL 8 (by kernel_rfl) ?_
      refine phase_laterL (by kernel_rfl) 3 (below_drew _) [0, 4, 5, 1, 2, 3] rfl (by kernel_rfl) ?_
      simp only [picks, nth]
      repeat (go_big_quiet_step (fail))
      refine wpQuiet_nil ?_
      refine phase_opL 6 2 rfl (by kernel_rfl) (by decide) ?_
      simp only [nth]
      go_wp2_with fail
      refine (J.out).mono ?_
      rintro e w3 ⟨A3, c3, rfl, o3, b3⟩
      have b3' : Below w1.heap.size w1 w3 := (below_drew w1).trans b3
      rw [List.nil_append] at o3
      simp only [Nat.zero_add] at o3 ⊢
      go_wp2_with fail
      refine behind_laterL b3' ?_
      refine phase_laterL (by kernel_rfl) 1 (Below.refl _ _) [7] rfl (by kernel_rfl) ?_
      simp only [picks, nth]
      repeat (go_big_quiet_step (fail))
      refine wpQuiet_nil ?_
      have d3 := below_step b1 b3' (Nat.le_refl _)
      have e3 := (d3.cell (p := ⟨gv, k, none⟩) hg).trans hcell
      have f3 := (d3.frozen (p := ⟨gv, k, none⟩) hg).trans hfr
      refine phase_last 0 rfl (by kernel_rfl) (by decide) (by kernel_rfl) ?_
      simp only [nth]
      go_wp2_with fail
      refine behind_last ?_
      go_wp2_with fail
      go_ret
      have o3' : OB w3 w.heap.size A3 n' c3 b := o3.more b1.drew.size
      have hput := HM.out (w1 := w3) d3 o3'
      have M2 : Mv (fun q => q = gv) w (w3.setCell ⟨gv, k, none⟩ (.slice A3 n' c3)) := (Mv.of_new d3 _).trans (Mv.setCell w3 ⟨gv, k, none⟩ (.slice A3 n' c3)) fun b _ h => h
      refine ⟨by rw [HZ.out]; rfl, M2, vs.set k (.slice A3 n' c3), ?_⟩
      rw [HP.out]
      exact hput.mono fun q hq hf => by
        rcases hf with hf | hf
        · exact .inl hf
        · exact .inr ⟨hf.1, by simpa [World.setCell] using hf.2⟩
    · have hp : Dc.pokeS D x y b = D := by unfold Dc.pokeS; rw [hf]; dsimp only; rw [if_neg hv]
      have HZ := Lib.hid hm
      have HP := Lib.hid hp
      generalize hvv : Ent.valS (D.l.getD k Dc.en0) b = z at *
      have HVV := Lib.hid hvv
      have ez : (z == 0) = false := beq_false_of_ne hv
      replace V := Lib.hid V
      have HLC := Lib.hid hlc
      have HH := Lib.hid h
      clear hp hv hf hm hrf hlc hre hc hvv h
      generalize D.l.length = m at *
      generalize D.l.getD k Dc.en0 = e0 at *
      go_enter Tryz.func21, Tryz.ntmps21
      go_wp2_with fail
      refine (FD.out).mono ?_
      rintro e w ⟨rfl, rfl⟩
      go_wp2_with fail
      refine (V.out).mono ?_
      rintro e w1 ⟨rfl, b1⟩
      go_wp2_with fail
      go_ret
      exact poke_no HH.out b1 HZ.out.symm HP.out
end Go.Proofs.YtoplpmfdgaabfaaGreat
/-
  Walk: Lent of layer 14's reference.
  Conditions: none.
-/
namespace Go.Proofs.YtoplpmfdgaabfaaGreat
set_option linter.unusedVariables false
set_option linter.unusedSimpArgs false
open Go.RowKit
set_option maxRecDepth 100000 in
set_option maxHeartbeats 4000000 in
theorem RLent_any (e : Ent.En) {A : Option Addr} {n c B : Nat} (w : World) (hb : RB w B A n c e.dflt) (hn : n < 140737488355328) (hB : B ≤ w.heap.size) :
    Calls Tryz.prog 46 #[enV e A n c] w fun x w' => ∃ A1 c1, x = .returned (enV e A1 n c1) ∧ OB w' w.heap.size A1 n c1 e.dflt ∧ Below w.heap.size w w' := by
  obtain ⟨ix, sb, nm, ty, ac, mp, st, mx, lo, hi, df⟩ := e
  dsimp only at hb
  unfold enV
  dsimp only
  have hb2 := (hb.alloc hB (.cells #[.int .i64 ix, .int .i64 sb, .string (T nm), .int .i64 ty, .int .i64 ac, .bool mp, .bool st, .int .i64 mx, .int .i64 lo, .int .i64 hi, .slice A n c] 57)).alloc (by simp; omega) (.cells #[.int .i64 0, .int .i64 0, .string ⟨#[]⟩, .int .i64 0, .int .i64 0, .bool false, .bool false, .int .i64 0, .int .i64 0, .int .i64 0, .slice none 0 0] 57)
  have K1 := (Blk.new w 57 #[.int .i64 ix, .int .i64 sb, .string (T nm), .int .i64 ty, .int .i64 ac, .bool mp, .bool st, .int .i64 mx, .int .i64 lo, .int .i64 hi, .slice A n c]).alloc (.cells #[.int .i64 0, .int .i64 0, .string ⟨#[]⟩, .int .i64 0, .int .i64 0, .bool false, .bool false, .int .i64 0, .int .i64 0, .int .i64 0, .slice none 0 0] 57)
  have K2 := Blk.new (w.alloc (.cells #[.int .i64 ix, .int .i64 sb, .string (T nm), .int .i64 ty, .int .i64 ac, .bool mp, .bool st, .int .i64 mx, .int .i64 lo, .int .i64 hi, .slice A n c] 57)) 57 #[.int .i64 0, .int .i64 0, .string ⟨#[]⟩, .int .i64 0, .int .i64 0, .bool false, .bool false, .int .i64 0, .int .i64 0, .int .i64 0, .slice none 0 0]
  have d0 := alloc_two w (.cells #[.int .i64 ix, .int .i64 sb, .string (T nm), .int .i64 ty, .int .i64 ac, .bool mp, .bool st, .int .i64 mx, .int .i64 lo, .int .i64 hi, .slice A n c] 57) (.cells #[.int .i64 0, .int .i64 0, .string ⟨#[]⟩, .int .i64 0, .int .i64 0, .bool false, .bool false, .int .i64 0, .int .i64 0, .int .i64 0, .slice none 0 0] 57)
  clear hb
  go_enter Tryz.func46, Tryz.ntmps46
  go_wp2_with (at_builtin; refine wpList_appb_nil etb rfl (.tmp 4) (.tmp 6) rfl rfl rfl w.heap.size hb2 (by omega) (by simp; omega) ?_; intro A1 c1 w1 o1 b1; have E1 := (K1.later b1).eleven; have E2 := (K2.later b1).eleven; simp only [World.size_alloc] at E2)
  replace K2 := K2.later b1
  have d1 := below_step d0 b1 (Nat.le_refl _)
  simp only [World.size_alloc] at o1 K2
  have hne : w.heap.size + 1 ≠ w.heap.size := by omega
  have K3 := (K2.far (p := ⟨w.heap.size, 10, none⟩) hne (.slice A1 n c1)).store11 (.int .i64 ix) (.int .i64 sb) (.string (T nm)) (.int .i64 ty) (.int .i64 ac) (.bool mp) (.bool st) (.int .i64 mx) (.int .i64 lo) (.int .i64 hi) (.slice A1 n c1)
  have R := K3.eleven.1
  have d2 := below_set11 (g := w.heap.size + 1) (d1.setCell (p := ⟨w.heap.size, 10, none⟩) (Nat.le_refl _) (.slice A1 n c1)) (by omega) (.int .i64 ix) (.int .i64 sb) (.string (T nm)) (.int .i64 ty) (.int .i64 ac) (.bool mp) (.bool st) (.int .i64 mx) (.int .i64 lo) (.int .i64 hi) (.slice A1 n c1)
  have o2 := ((o1.far (g := w.heap.size) (by omega) 10 (.slice A1 n c1)).far11 (g := w.heap.size + 1) (by omega) (.int .i64 ix) (.int .i64 sb) (.string (T nm)) (.int .i64 ty) (.int .i64 ac) (.bool mp) (.bool st) (.int .i64 mx) (.int .i64 lo) (.int .i64 hi) (.slice A1 n c1)).more (base' := w.heap.size) (by omega)
  exact bodyPost_ret (v := .agg #[.int .i64 ix, .int .i64 sb, .string (T nm), .int .i64 ty, .int .i64 ac, .bool mp, .bool st, .int .i64 mx, .int .i64 lo, .int .i64 hi, .slice A1 n c1]) (by simp [results, Tryz.results46, go_sem, R]) rfl ⟨A1, c1, rfl, o2, d2⟩
end Go.Proofs.YtoplpmfdgaabfaaGreat
/-
  Walk: Right of layer 14's reference.
  Conditions: none.
-/
namespace Go.Proofs.YtoplpmfdgaabfaaGreat
set_option linter.unusedVariables false
set_option linter.unusedSimpArgs false
open Go.RowKit
theorem flags_iff {e : Ent.En} : Ent.flagsB e = true ↔ 1 ≤ e.access ∧ e.access ≤ 4 ∧ (e.store = true → 3 ≤ e.access) ∧ (e.map = true → e.access ≠ 1) := by
  unfold Ent.flagsB
  by_cases h1 : e.access = 1
  · rw [if_pos h1, h1]; cases e.store <;> cases e.map <;> simp
  · rw [if_neg h1]
    by_cases h2 : e.access = 2
    · rw [if_pos h2, h2]; cases e.store <;> simp
    · rw [if_neg h2]
      simp only [decide_eq_true_eq]
      constructor
      · intro h; exact ⟨by omega, by omega, fun _ => by omega, fun _ => h1⟩
      · intro h; omega
theorem bad_flags {e : Ent.En} (h : ¬ (1 ≤ e.access ∧ e.access ≤ 4 ∧ (e.store = true → 3 ≤ e.access) ∧ (e.map = true → e.access ≠ 1))) : Ent.flagsB e = false := by
  cases hf : Ent.flagsB e with
  | false => rfl
  | true => exact absurd (flags_iff.1 hf) h
theorem bad_number {e : Ent.En} {l h : Int} (hn : ¬ (e.max = 0 ∧ l ≤ e.low ∧ e.low ≤ e.high ∧ e.high ≤ h)) : Ent.numberedB e l h = false := decide_eq_false hn
theorem good_number {e : Ent.En} {l h : Int} (hn : e.max = 0 ∧ l ≤ e.low ∧ e.low ≤ e.high ∧ e.high ≤ h) : Ent.numberedB e l h = true := decide_eq_true hn
theorem bad_size {e : Ent.En} (hn : ¬ (e.low = 0 ∧ e.high = 0 ∧ 1 ≤ e.max ∧ e.max ≤ 256 ∧ e.map = false)) : Ent.sizedB e = false := by
  unfold Ent.sizedB
  by_cases h : e.low = 0 ∧ e.high = 0 ∧ 1 ≤ e.max ∧ e.max ≤ 256
  · cases hm : e.map with
    | false => exact absurd ⟨h.1, h.2.1, h.2.2.1, h.2.2.2, hm⟩ hn
    | true => simp
  · rw [decide_eq_false h]; rfl
theorem good_size {e : Ent.En} (hn : e.low = 0 ∧ e.high = 0 ∧ 1 ≤ e.max ∧ e.max ≤ 256 ∧ e.map = false) : Ent.sizedB e = true := by
  unfold Ent.sizedB
  rw [decide_eq_true ⟨hn.1, hn.2.1, hn.2.2.1, hn.2.2.2.1⟩, hn.2.2.2.2]
  rfl
end Go.Proofs.YtoplpmfdgaabfaaGreat
/-
  Walk: Right of layer 14's reference (numbers).
  Conditions: none.
-/
namespace Go.Proofs.YtoplpmfdgaabfaaGreat
set_option linter.unusedVariables false
set_option linter.unusedSimpArgs false
open Go.RowKit
set_option maxRecDepth 100000 in
set_option maxHeartbeats 4000000 in
theorem RRight_true (e : Ent.En) {A : Option Addr} {n c B : Nat} (w : World) (hb : RB w B A n c e.dflt) (hB : B ≤ w.heap.size) (hn : e.name.length ≤ 9223372036854775807) (g1 : 1 ≤ e.index ∧ e.index ≤ 65535 ∧ 0 ≤ e.sub ∧ e.sub ≤ 255) (g2 : Ent.nameB e.name = true) (g3 : (Ty.kd e.type).name ≠ []) (g4 : 1 ≤ e.access ∧ e.access ≤ 4) (g6 : (Ty.limS e.type).2.2 = true) : Calls Tryz.prog 44 #[enV e A n c] w fun x w' => x = .returned (.int .i64 (Ent.rightS e)) ∧ Below w.heap.size w w' := by
  obtain ⟨ix, sb, nm, ty, ac, mp, st, mx, lo, hi, df⟩ := e
  dsimp only at hb hn g1 g2 g3 g4 g6
  have L := fun w => RLimits_any ty w
  have NM := fun w => RName14_any nm w hn
  have KN := fun w => RKnown_any ty w
  have VL := RValue_any ⟨ix, sb, nm, ty, ac, mp, st, mx, lo, hi, df⟩ A n c (w.alloc (.cells #[.int .i64 ix, .int .i64 sb, .string (T nm), .int .i64 ty, .int .i64 ac, .bool mp, .bool st, .int .i64 mx, .int .i64 lo, .int .i64 hi, .slice A n c] 57)) (hb.alloc hB _) (by simp; omega)
  unfold knownB at KN
  unfold enV at *
  dsimp only at *
  have hR : Ent.rightS ⟨ix, sb, nm, ty, ac, mp, st, mx, lo, hi, df⟩ = if ix < 1 ∨ 65535 < ix ∨ sb < 0 ∨ 255 < sb then 9 else if Ent.nameB nm = false then 14 else if (Ty.kd ty).name = [] then 15 else if Ent.flagsB ⟨ix, sb, nm, ty, ac, mp, st, mx, lo, hi, df⟩ = false then 1 else if (if (Ty.limS ty).2.2 = true then Ent.numberedB ⟨ix, sb, nm, ty, ac, mp, st, mx, lo, hi, df⟩ (Ty.limS ty).1 (Ty.limS ty).2.1 else Ent.sizedB ⟨ix, sb, nm, ty, ac, mp, st, mx, lo, hi, df⟩) = false then 1 else if Ent.valS ⟨ix, sb, nm, ty, ac, mp, st, mx, lo, hi, df⟩ df ≠ 0 then 4 else 0 := rfl
  generalize Ent.rightS ⟨ix, sb, nm, ty, ac, mp, st, mx, lo, hi, df⟩ = res at *
  generalize Ent.valS ⟨ix, sb, nm, ty, ac, mp, st, mx, lo, hi, df⟩ df = vl at *
  generalize Ent.nameB nm = nmb at *
  generalize (Ty.limS ty).1 = llo at *
  generalize (Ty.limS ty).2.1 = lhi at *
  generalize (Ty.limS ty).2.2 = num at *
  clear hb hn
  subst g2
  subst g6
  obtain ⟨r1, r2, r3, r4⟩ := g1
  obtain ⟨a1, a2⟩ := g4
  rw [if_neg (by omega)] at hR
  rw [if_neg (by decide)] at hR
  rw [if_neg g3] at hR
  have hk2 : (!(Ty.kd ty).name.isEmpty) = true := by
    cases h : (Ty.kd ty).name with
    | nil => exact absurd h g3
    | cons a b => rfl
  rw [hk2] at KN
  clear g3 hk2
  have a1' : ¬ ac < 1 := by omega
  have a2' : ¬ 4 < ac := by omega
  have one : ∀ b : Bool, (if Ent.flagsB ⟨ix, sb, nm, ty, ac, mp, st, mx, lo, hi, df⟩ = false then (1 : Int) else if b = false then 1 else if vl ≠ 0 then 4 else 0) = if b = false then 1 else if Ent.flagsB ⟨ix, sb, nm, ty, ac, mp, st, mx, lo, hi, df⟩ = false then 1 else if vl ≠ 0 then 4 else 0 := fun b => by cases b <;> cases Ent.flagsB ⟨ix, sb, nm, ty, ac, mp, st, mx, lo, hi, df⟩ <;> simp
  rw [one] at hR
  clear one
  rw [show (if true = true then Ent.numberedB ⟨ix, sb, nm, ty, ac, mp, st, mx, lo, hi, df⟩ llo lhi else Ent.sizedB ⟨ix, sb, nm, ty, ac, mp, st, mx, lo, hi, df⟩) = Ent.numberedB ⟨ix, sb, nm, ty, ac, mp, st, mx, lo, hi, df⟩ llo lhi from rfl] at hR
  by_cases n1 : mx ≠ 0
  · rw [if_pos (bad_number (by dsimp only; omega))] at hR
    have e0 : (mx != 0) = true := by simpa using n1
    clear n1
    have HV := Lib.hid hR
    clear hR
    replace L := Lib.hid L; replace NM := Lib.hid NM; replace KN := Lib.hid KN; replace VL := Lib.hid VL
    go_enter Tryz.func44, Tryz.ntmps44
    go_wp2_with fail
    refine (L.out _).mono ?_
    rintro x _ ⟨rfl, rfl⟩
    go_wp2_with fail
    refine (NM.out _).mono ?_
    rintro x _ ⟨rfl, rfl⟩
    go_wp2_with fail
    refine (KN.out _).mono ?_
    rintro x _ ⟨rfl, rfl⟩
    go_wp2_with fail
    go_ret
    exact ⟨by rw [HV.out]; rfl, alloc_one _ _⟩
  have n0 : mx = 0 := by omega
  subst n0
  clear n1
  by_cases n2 : lo < llo
  · rw [if_pos (bad_number (by dsimp only; omega))] at hR
    have HV := Lib.hid hR
    clear hR
    replace L := Lib.hid L; replace NM := Lib.hid NM; replace KN := Lib.hid KN; replace VL := Lib.hid VL
    go_enter Tryz.func44, Tryz.ntmps44
    go_wp2_with fail
    refine (L.out _).mono ?_
    rintro x _ ⟨rfl, rfl⟩
    go_wp2_with fail
    refine (NM.out _).mono ?_
    rintro x _ ⟨rfl, rfl⟩
    go_wp2_with fail
    refine (KN.out _).mono ?_
    rintro x _ ⟨rfl, rfl⟩
    go_wp2_with fail
    go_ret
    exact ⟨by rw [HV.out]; rfl, alloc_one _ _⟩
  by_cases n3 : lhi < hi
  · rw [if_pos (bad_number (by dsimp only; omega))] at hR
    have HV := Lib.hid hR
    clear hR
    replace L := Lib.hid L; replace NM := Lib.hid NM; replace KN := Lib.hid KN; replace VL := Lib.hid VL
    go_enter Tryz.func44, Tryz.ntmps44
    go_wp2_with fail
    refine (L.out _).mono ?_
    rintro x _ ⟨rfl, rfl⟩
    go_wp2_with fail
    refine (NM.out _).mono ?_
    rintro x _ ⟨rfl, rfl⟩
    go_wp2_with fail
    refine (KN.out _).mono ?_
    rintro x _ ⟨rfl, rfl⟩
    go_wp2_with fail
    go_ret
    exact ⟨by rw [HV.out]; rfl, alloc_one _ _⟩
  by_cases n4 : hi < lo
  · rw [if_pos (bad_number (by dsimp only; omega))] at hR
    have HV := Lib.hid hR
    clear hR
    replace L := Lib.hid L; replace NM := Lib.hid NM; replace KN := Lib.hid KN; replace VL := Lib.hid VL
    go_enter Tryz.func44, Tryz.ntmps44
    go_wp2_with fail
    refine (L.out _).mono ?_
    rintro x _ ⟨rfl, rfl⟩
    go_wp2_with fail
    refine (NM.out _).mono ?_
    rintro x _ ⟨rfl, rfl⟩
    go_wp2_with fail
    refine (KN.out _).mono ?_
    rintro x _ ⟨rfl, rfl⟩
    go_wp2_with fail
    go_ret
    exact ⟨by rw [HV.out]; rfl, alloc_one _ _⟩
  rw [if_neg (by rw [good_number (by dsimp only; omega)]; decide)] at hR
  by_cases s1 : st = true ∧ ac < 3
  · rw [if_pos (bad_flags (by dsimp only; intro h; have := h.2.2.1 s1.1; omega))] at hR
    obtain ⟨rfl, s2⟩ := s1
    have HV := Lib.hid hR
    clear hR
    replace L := Lib.hid L; replace NM := Lib.hid NM; replace KN := Lib.hid KN; replace VL := Lib.hid VL
    go_enter Tryz.func44, Tryz.ntmps44
    go_wp2_with fail
    refine (L.out _).mono ?_
    rintro x _ ⟨rfl, rfl⟩
    go_wp2_with fail
    refine (NM.out _).mono ?_
    rintro x _ ⟨rfl, rfl⟩
    go_wp2_with fail
    refine (KN.out _).mono ?_
    rintro x _ ⟨rfl, rfl⟩
    go_wp2_with fail
    go_ret
    exact ⟨by rw [HV.out]; rfl, alloc_one _ _⟩
  by_cases m1 : mp = true ∧ ac = 1
  · rw [if_pos (bad_flags (by dsimp only; intro h; exact h.2.2.2 m1.1 m1.2))] at hR
    obtain ⟨rfl, rfl⟩ := m1
    have s3 : st = false := by cases st with | false => rfl | true => exact absurd ⟨rfl, by decide⟩ s1
    subst s3
    clear s1
    have HV := Lib.hid hR
    clear hR
    replace L := Lib.hid L; replace NM := Lib.hid NM; replace KN := Lib.hid KN; replace VL := Lib.hid VL
    go_enter Tryz.func44, Tryz.ntmps44
    go_wp2_with fail
    refine (L.out _).mono ?_
    rintro x _ ⟨rfl, rfl⟩
    go_wp2_with fail
    refine (NM.out _).mono ?_
    rintro x _ ⟨rfl, rfl⟩
    go_wp2_with fail
    refine (KN.out _).mono ?_
    rintro x _ ⟨rfl, rfl⟩
    go_wp2_with fail
    go_ret
    exact ⟨by rw [HV.out]; rfl, alloc_one _ _⟩
  rw [if_neg (by rw [flags_iff.2 ⟨by dsimp only; omega, by dsimp only; omega, fun h => by dsimp only at h ⊢; have : ¬ ac < 3 := fun h3 => s1 ⟨h, h3⟩; omega, fun h => by dsimp only at h ⊢; exact fun h3 => m1 ⟨h, h3⟩⟩]; decide)] at hR
  have e1 : mp = true → (ac == 1) = false := fun h => beq_false_of_ne fun h3 => m1 ⟨h, h3⟩
  have e2 : st = true → ¬ ac < 3 := fun h h3 => s1 ⟨h, h3⟩
  clear s1 m1
  by_cases hv : vl = 0
  · subst hv
    rw [if_neg (by decide)] at hR
    have HV := Lib.hid hR
    clear hR
    replace L := Lib.hid L; replace NM := Lib.hid NM; replace KN := Lib.hid KN; replace VL := Lib.hid VL
    cases st <;> cases mp
    all_goals
      first | (have e1' := e1 rfl) | skip
      first | (have e2' := e2 rfl) | skip
      clear e1 e2
      go_enter Tryz.func44, Tryz.ntmps44
      go_wp2_with fail
      refine (L.out _).mono ?_
      rintro x _ ⟨rfl, rfl⟩
      go_wp2_with fail
      refine (NM.out _).mono ?_
      rintro x _ ⟨rfl, rfl⟩
      go_wp2_with fail
      refine (KN.out _).mono ?_
      rintro x _ ⟨rfl, rfl⟩
      go_wp2_with fail
      refine (VL.out).mono ?_
      rintro x w5 ⟨rfl, b5⟩
      have d5 := below_step (alloc_one _ _) b5 (Nat.le_refl _)
      go_wp2_with fail
      go_ret
      exact ⟨by rw [HV.out]; rfl, d5⟩
  · rw [if_pos hv] at hR
    have ev : (vl != 0) = true := by simpa using hv
    have HV := Lib.hid hR
    clear hR hv
    replace L := Lib.hid L; replace NM := Lib.hid NM; replace KN := Lib.hid KN; replace VL := Lib.hid VL
    cases st <;> cases mp
    all_goals
      first | (have e1' := e1 rfl) | skip
      first | (have e2' := e2 rfl) | skip
      clear e1 e2
      go_enter Tryz.func44, Tryz.ntmps44
      go_wp2_with fail
      refine (L.out _).mono ?_
      rintro x _ ⟨rfl, rfl⟩
      go_wp2_with fail
      refine (NM.out _).mono ?_
      rintro x _ ⟨rfl, rfl⟩
      go_wp2_with fail
      refine (KN.out _).mono ?_
      rintro x _ ⟨rfl, rfl⟩
      go_wp2_with fail
      refine (VL.out).mono ?_
      rintro x w5 ⟨rfl, b5⟩
      have d5 := below_step (alloc_one _ _) b5 (Nat.le_refl _)
      go_wp2_with fail
      go_ret
      exact ⟨by rw [HV.out]; rfl, d5⟩
end Go.Proofs.YtoplpmfdgaabfaaGreat
