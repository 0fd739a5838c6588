/-
  Texts joined: DicMay, DicPut, DicRFind, DicNwM.
  Conditions: none.
-/
import Derived.Test.YtgkhpebhhkdgoaaGreatJ03
import Derived.Test.YtgkhpebhhkdgoaaGreatJ04
import Derived.Test.YtgkhpebhhkdgoaaGreatJ05
import Derived.Test.YtgkhpebhhkdgoaaGreatJ08
/-
  Walks: Peek, Entry, may, May of layer 15.
  Conditions: none.
-/
namespace Go.Proofs.YtgkhpebhhkdgoaaGreat
set_option linter.unusedVariables false
set_option linter.unusedSimpArgs false
open Go.RowKit
theorem loc_some {l : List Ent.En} {x y : Int} {k : Nat} (h : Dc.findS l x y = some k) : locP l x y = ((k : Int), 0) := by unfold locP; rw [h]
theorem loc_none {l : List Ent.En} {x y : Int} (h : Dc.findS l x y = none) : locP l x y = (0, if Dc.inB l x = true then 101253137 else 100794368) := by unfold locP; rw [h]
theorem findP_some {l : List Ent.En} {x y : Int} {k : Nat} (h : Dc.findS l x y = some k) : findP l x y = ((k : Int), true) := by unfold findP; rw [h]
theorem findP_none {l : List Ent.En} {x y : Int} (h : Dc.findS l x y = none) : findP l x y = (0, false) := by unfold findP; rw [h]
/-- Bytes of a place, in new memory; false: there are none. -/
def PeekP (v : Option (List UInt8)) (w : World) (e : Ending) (w' : World) : Prop := match v with
  | none => e = .returned (.tuple #[.slice none 0 0, .bool false]) ∧ Below w.heap.size w w'
  | some b => ∃ A c, e = .returned (.tuple #[.slice A b.length c, .bool true]) ∧ OB w' w.heap.size A b.length c b ∧ Below w.heap.size w w'
theorem val_len {D : Dc.Dic} (hr : ∀ v ∈ D.v, v.length ≤ 1000000) {k : Nat} (hk : k < D.v.length) : (D.v.getD k []).length ≤ 1000000 := by
  rw [List.getD_eq_getElem?_getD, List.getElem?_eq_getElem hk]
  exact hr _ (List.getElem_mem hk)
set_option maxRecDepth 100000 in
set_option maxHeartbeats 4000000 in
theorem dPeek_any {F : Nat → Prop} {w : World} {g gv lc vc : Nat} {la : Addr} {vA : Option Addr} {xs vs : List Value} {D : Dc.Dic} (x y : Int) (h : DRt 112 w F g gv (some la) lc vA vc xs vs D) (hv : ∀ v ∈ D.v, v.length ≤ 1000000) : Calls Tryz.prog 50 #[.pointer (some ⟨g, 0, none⟩), .int .i64 x, .int .i64 y] w (PeekP (Dc.peekS D x y) w) := by
  have FD := dFind_any x y h
  cases hf : Dc.findS D.l x y with
  | none =>
    rw [findP_none hf] at FD
    dsimp only at FD
    replace FD := Lib.hid FD
    have hp : Dc.peekS D x y = none := by unfold Dc.peekS; rw [hf]; rfl
    rw [hp]
    clear hp hf h
    go_enter Tryz.func50, Tryz.ntmps50
    go_wp2_with fail
    refine (FD.out).mono ?_
    rintro e w1 ⟨rfl, b1⟩
    go_wp2_with fail
    go_ret2
    exact ⟨rfl, b1⟩
  | some k =>
    rw [findP_some hf] at FD
    dsimp only at FD
    replace FD := Lib.hid FD
    have hp : Dc.peekS D x y = some (D.v.getD k []) := by unfold Dc.peekS; rw [hf]; rfl
    rw [hp]
    have hk := (Dc.find_some hf).2.1
    have hvl := val_len hv (k := k) (by rw [h.len]; exact hk)
    clear hp hf
    go_enter Tryz.func50, Tryz.ntmps50
    go_wp2_with fail
    refine (FD.out).mono ?_
    rintro e w1 ⟨rfl, b1⟩
    have h2 := h.below b1
    obtain ⟨t0, t1⟩ := h2.two
    obtain ⟨A, n, c, hA, _, hg, hr, hcell, _⟩ := h2.value hk
    subst hA
    have hn := hr.len
    have OWN := Lib.hid (down_any w1 hr (by omega) (Nat.le_refl _))
    have hcap : D.l.length ≤ vc ∧ vc ≤ 9223372036854775807 := ⟨h2.own.rv.le, h2.own.rv.cap⟩
    have HC := Lib.hid hcap
    clear hr hcap
    generalize D.v.getD k [] = val at *
    subst hn
    generalize D.l.length = m at *
    go_wp2_with fail
    refine (OWN.out).mono ?_
    rintro e w2 ⟨A1, c1, rfl, o2, b2⟩
    go_wp2_with fail
    go_ret2
    exact ⟨A1, c1, rfl, o2.more b1.size, below_step b1 b2 (Nat.le_refl _)⟩
def mayP (l : List Ent.En) (any : Bool) (x y : Int) (b : List UInt8) : Int × Int := match Dc.findS l x y with
  | none => (0, if Dc.inB l x = true then 101253137 else 100794368)
  | some k => ((k : Int), if any = false ∧ Ent.writS (l.getD k Dc.en0) ≠ 0 then Ent.writS (l.getD k Dc.en0) else Ent.valS (l.getD k Dc.en0) b)
theorem mayP_snd (l : List Ent.En) (any : Bool) (x y : Int) (b : List UInt8) : (mayP l any x y b).2 = Dc.mayS l any x y b := by
  unfold mayP Dc.mayS
  cases Dc.findS l x y <;> rfl
set_option maxRecDepth 100000 in
set_option maxHeartbeats 4000000 in
theorem dmay_any {F : Nat → Prop} {w : World} {g gv lc vc : Nat} {la : Addr} {vA : Option Addr} {xs vs : List Value} {D : Dc.Dic} (any : Bool) (x y : Int) {A' : Option Addr} {n' c' B : Nat} {b : List UInt8} (h : DRt 112 w F g gv (some la) lc vA vc xs vs D) (hb : RB w B A' n' c' b) (hB : B ≤ w.heap.size) : Calls Tryz.prog 40 #[.pointer (some ⟨g, 0, none⟩), .int .i64 x, .int .i64 y, .slice A' n' c', .bool any] w fun e w' => e = .returned (.tuple #[.int .i64 (mayP D.l any x y b).1, .int .u32 (mayP D.l any x y b).2]) ∧ Below w.heap.size w w' := by
  have LC := dlocate_any x y h
  cases hf : Dc.findS D.l x y with
  | none =>
    rw [loc_none hf] at LC
    dsimp only at LC
    have hp : mayP D.l any x y b = (0, if Dc.inB D.l x = true then 101253137 else 100794368) := by unfold mayP; rw [hf]
    rw [hp]
    clear hp hf h hb
    dsimp only
    have hz : ((if Dc.inB D.l x = true then (101253137 : Int) else 100794368) == 0) = false := by split <;> rfl
    generalize (if Dc.inB D.l x = true then (101253137 : Int) else 100794368) = code at *
    replace LC := Lib.hid LC
    go_enter Tryz.func40, Tryz.ntmps40
    go_wp2_with fail
    refine (LC.out).mono ?_
    rintro e w1 ⟨rfl, b1⟩
    go_wp2_with fail
    go_ret2
    exact ⟨rfl, b1⟩
  | some k =>
    rw [loc_some hf] at LC
    dsimp only at LC
    replace LC := Lib.hid LC
    have hp : mayP D.l any x y b = ((k : Int), if any = false ∧ Ent.writS (D.l.getD k Dc.en0) ≠ 0 then Ent.writS (D.l.getD k Dc.en0) else Ent.valS (D.l.getD k Dc.en0) b) := by unfold mayP; rw [hf]
    rw [hp]
    dsimp only
    have hk := (Dc.find_some hf).2.1
    have hcap := h.lcap
    clear hp hf
    generalize he : D.l.getD k Dc.en0 = e0
    have HE := Lib.hid he
    clear he
    cases any with
    | true =>
      rw [if_neg (by simp)]
      go_enter Tryz.func40, Tryz.ntmps40
      go_wp2_with fail
      refine (LC.out).mono ?_
      rintro e w1 ⟨rfl, b1⟩
      have h2 := h.below b1
      obtain ⟨t0, t1⟩ := h2.two
      obtain ⟨bb, o, A, n, c, hA, hbB, hr, hc⟩ := h2.entry hk
      rw [HE.out] at hc hr
      injection hA with hA
      subst hA
      have V := EValue_any e0 A n c w1 (hb.below (b1.mono hB)) (Nat.le_trans hB b1.size)
      unfold enV at V
      have c0 := hc 0 _ rfl
      have c1 := hc 1 _ rfl
      have c2 := hc 2 _ rfl
      have c3 := hc 3 _ rfl
      have c4 := hc 4 _ rfl
      have c5 := hc 5 _ rfl
      have c6 := hc 6 _ rfl
      have c7 := hc 7 _ rfl
      have c8 := hc 8 _ rfl
      have c9 := hc 9 _ rfl
      have c10 := hc 10 _ rfl
      simp only [Nat.add_zero] at c0
      replace V := Lib.hid V
      have HC := Lib.hid hcap
      clear hr hc hcap h2
      generalize D.l.length = m at *
      go_wp2_with fail
      refine (V.out).mono ?_
      rintro e w2 ⟨rfl, b2⟩
      go_wp2_with fail
      go_ret2
      exact ⟨rfl, below_step b1 b2 (Nat.le_refl _)⟩
    | false =>
      by_cases hw : Ent.writS e0 = 0
      · rw [if_neg (by rw [hw]; simp)]
        go_enter Tryz.func40, Tryz.ntmps40
        go_wp2_with fail
        refine (LC.out).mono ?_
        rintro e w1 ⟨rfl, b1⟩
        have h2 := h.below b1
        obtain ⟨t0, t1⟩ := h2.two
        obtain ⟨bb, o, A, n, c, hA, hbB, hr, hc⟩ := h2.entry hk
        rw [HE.out] at hc hr
        injection hA with hA
        subst hA
        have V := fun (w2 : World) (b2 : Below w1.heap.size w1 w2) => EValue_any e0 A n c w2 ((hb.below (b1.mono hB)).below (b2.mono (Nat.le_trans hB b1.size))) (Nat.le_trans hB (Nat.le_trans b1.size b2.size))
        have WR := fun w => Writable_any e0 A n c w
        rw [hw] at WR
        unfold enV at V WR
        have hold := fun (w2 : World) (b2 : Below w1.heap.size w1 w2) => b2
        have c0 := hc 0 _ rfl
        have c1 := hc 1 _ rfl
        have c2 := hc 2 _ rfl
        have c3 := hc 3 _ rfl
        have c4 := hc 4 _ rfl
        have c5 := hc 5 _ rfl
        have c6 := hc 6 _ rfl
        have c7 := hc 7 _ rfl
        have c8 := hc 8 _ rfl
        have c9 := hc 9 _ rfl
        have c10 := hc 10 _ rfl
        simp only [Nat.add_zero] at c0
        replace V := Lib.hid V; replace WR := Lib.hid WR
        have HC := Lib.hid hcap
        have hbb := hbB
        have hg1 := h2.blk.lt
        clear hr hc hcap h2 hw hold
        generalize D.l.length = m at *
        go_wp2_with fail
        refine (WR.out _).mono ?_
        rintro e w2 ⟨rfl, b2⟩
        obtain ⟨k1, k2⟩ := bcell b2
        go_wp2_with fail
        refine (V.out _ b2).mono ?_
        rintro e w3 ⟨rfl, b3⟩
        go_wp2_with fail
        go_ret2
        exact ⟨rfl, below_step (below_step b1 b2 (Nat.le_refl _)) b3 (Nat.le_refl _)⟩
      · rw [if_pos ⟨rfl, hw⟩]
        have WR := fun (A : Option Addr) (n c : Nat) w => Writable_any e0 A n c w
        unfold enV at WR
        generalize hwv : Ent.writS e0 = wv at *
        have e0' : (wv == 0) = false := beq_false_of_ne hw
        replace WR := Lib.hid WR
        go_enter Tryz.func40, Tryz.ntmps40
        go_wp2_with fail
        refine (LC.out).mono ?_
        rintro e w1 ⟨rfl, b1⟩
        have h2 := h.below b1
        obtain ⟨t0, t1⟩ := h2.two
        obtain ⟨bb, o, A, n, c, hA, hbB, hr, hc⟩ := h2.entry hk
        rw [HE.out] at hc hr
        injection hA with hA
        subst hA
        have c0 := hc 0 _ rfl
        have c1 := hc 1 _ rfl
        have c2 := hc 2 _ rfl
        have c3 := hc 3 _ rfl
        have c4 := hc 4 _ rfl
        have c5 := hc 5 _ rfl
        have c6 := hc 6 _ rfl
        have c7 := hc 7 _ rfl
        have c8 := hc 8 _ rfl
        have c9 := hc 9 _ rfl
        have c10 := hc 10 _ rfl
        simp only [Nat.add_zero] at c0
        have HC := Lib.hid hcap
        clear hr hc hcap h2 hw hwv
        generalize D.l.length = m at *
        go_wp2_with fail
        refine (WR.out _ _ _ _).mono ?_
        rintro e w2 ⟨rfl, b2⟩
        go_wp2_with fail
        go_ret2
        exact ⟨rfl, below_step b1 b2 (Nat.le_refl _)⟩
set_option maxRecDepth 100000 in
set_option maxHeartbeats 4000000 in
theorem dMay_any {F : Nat → Prop} {w : World} {g gv lc vc : Nat} {la : Addr} {vA : Option Addr} {xs vs : List Value} {D : Dc.Dic} (x y : Int) {A' : Option Addr} {n' c' B : Nat} {b : List UInt8} (h : DRt 112 w F g gv (some la) lc vA vc xs vs D) (hb : RB w B A' n' c' b) (hB : B ≤ w.heap.size) : Calls Tryz.prog 10 #[.pointer (some ⟨g, 0, none⟩), .int .i64 x, .int .i64 y, .slice A' n' c'] w fun e w' => e = .returned (.int .u32 (Dc.mayS D.l false x y b)) ∧ Below w.heap.size w w' := by
  have M := Lib.hid (dmay_any false x y h hb hB)
  rw [← mayP_snd]
  clear h hb
  go_enter Tryz.func10, Tryz.ntmps10
  go_wp2_with fail
  refine (M.out).mono ?_
  rintro e w1 ⟨rfl, b1⟩
  go_wp2_with fail
  go_ret
  exact ⟨rfl, b1⟩
end Go.Proofs.YtgkhpebhhkdgoaaGreat
/-
  Walks: put, Poke of layer 15.
  Conditions: none.
-/
namespace Go.Proofs.YtgkhpebhhkdgoaaGreat
set_option linter.unusedVariables false
set_option linter.unusedSimpArgs false
open Go.RowKit
/-- A value that was poked, or not. -/
def PokeP {t : TypeId} (D : Dc.Dic) (x y : Int) (b : List UInt8) (w : World) (F : Nat → Prop) (g gv : Nat) (lA : Option Addr) (lc : Nat) (vA : Option Addr) (vc : Nat) (xs : List Value) (e : Ending) (w' : World) : Prop :=
  e = .returned (.int .u32 (Dc.mayS D.l true x y b)) ∧ Mv (fun q => q = gv) w w' ∧ ∃ vs', DRt t w' (fun q => F q ∨ (w.heap.size ≤ q ∧ q < w'.heap.size)) g gv lA lc vA vc xs vs' (Dc.pokeS D x y b)
theorem poke_no {t : TypeId} {D : Dc.Dic} {x y : Int} {b : List UInt8} {w w' : World} {F : Nat → Prop} {g gv lc vc : Nat} {lA vA : Option Addr} {xs vs : List Value} (h : DRt t w F g gv lA lc vA vc xs vs D) (hb : Below w.heap.size w w') {z : Int} (hz : z = Dc.mayS D.l true x y b) (hp : Dc.pokeS D x y b = D) :
    PokeP (t := t) D x y b w F g gv lA lc vA vc xs (.returned (.int .u32 z)) w' := by
  subst hz
  refine ⟨rfl, Mv.of_new hb _, vs, ?_⟩
  rw [hp]
  exact (h.below hb).mono fun _ _ hf => .inl hf
set_option maxRecDepth 100000 in
set_option maxHeartbeats 4000000 in
theorem dput_any {F : Nat → Prop} {w : World} {g gv lc vc : Nat} {la : Addr} {vA : Option Addr} {xs vs : List Value} {D : Dc.Dic} (x y : Int) {A' : Option Addr} {n' c' B : Nat} {b : List UInt8} (h : DRt 112 w F g gv (some la) lc vA vc xs vs D) (hb : RB w B A' n' c' b) (hB : B ≤ w.heap.size) (hn : n' < 140737488355328) : Calls Tryz.prog 47 #[.pointer (some ⟨g, 0, none⟩), .int .i64 x, .int .i64 y, .slice A' n' c', .bool true] w (PokeP (t := 112) D x y b w F g gv (some la) lc vA vc xs) := by
  have M := dmay_any true x y h hb hB
  have hz0 := mayP_snd D.l true x y b
  cases hf : Dc.findS D.l x y with
  | none =>
    have hp : Dc.pokeS D x y b = D := by unfold Dc.pokeS; rw [hf]
    have hv : (mayP D.l true x y b).2 ≠ 0 := by
      unfold mayP
      rw [hf]
      dsimp only
      split <;> decide
    generalize (mayP D.l true x y b).2 = z at *
    have ez : (z == 0) = false := beq_false_of_ne hv
    replace M := Lib.hid M
    have HP := Lib.hid hp; have HZ := Lib.hid hz0
    clear hp hz0 hv hf
    go_enter Tryz.func47, Tryz.ntmps47
    go_wp2_with fail
    refine (M.out).mono ?_
    rintro e w1 ⟨rfl, b1⟩
    go_wp2_with fail
    go_ret
    exact poke_no h b1 HZ.out HP.out
  | some k =>
    have hk := (Dc.find_some hf).2.1
    have hm : mayP D.l true x y b = ((k : Int), Ent.valS (D.l.getD k Dc.en0) b) := by unfold mayP; rw [hf]; simp
    rw [hm] at M hz0
    dsimp only at M hz0
    by_cases hv : Ent.valS (D.l.getD k Dc.en0) b = 0
    · have hp : Dc.pokeS D x y b = ⟨D.l, D.v.set k b⟩ := by unfold Dc.pokeS; rw [hf]; dsimp only; rw [if_pos hv]
      rw [hv] at M hz0
      replace M := Lib.hid M
      have HP := Lib.hid hp; have HZ := Lib.hid hz0
      clear hp hz0 hv hf hm
      obtain ⟨t0, t1⟩ := h.two
      obtain ⟨A, n, c, hA, hF, hg, hr, hcell, hfr⟩ := h.value hk
      subst hA
      have hcap : D.l.length ≤ vc ∧ vc ≤ 9223372036854775807 := ⟨h.own.rv.le, h.own.rv.cap⟩
      have HC := Lib.hid hcap
      have hgl := h.blk.lt
      have HM : Hid (∀ {w1 : World} {n c : Nat} {A : Option Addr}, Below w.heap.size w w1 → OB w1 w.heap.size A n c b → DRt 112 (w1.setCell ⟨gv, k, none⟩ (.slice A n c)) (fun q => F q ∨ (w.heap.size ≤ q ∧ q < w1.heap.size)) g gv (some la) lc (some ⟨gv, 0, none⟩) vc xs (vs.set k (.slice A n c)) ⟨D.l, D.v.set k b⟩) := Lib.hid fun h1 h2 => h.put hk h1 h2
      clear hcap hr h
      generalize hmm : D.l.length = m at *
      have HMM := Lib.hid hmm
      clear hmm
      go_enter Tryz.func47, Tryz.ntmps47
      go_wp2_with fail
      refine (M.out).mono ?_
      rintro e w1 ⟨rfl, b1⟩
      have OWN := Lib.hid (down_any w1.drew (hb.below (b1.drew.mono hB)) hn (Nat.le_trans hB b1.drew.size))
      have t1' : w1.cell? ⟨g, 1, none⟩ = _ := (b1.cell (p := ⟨g, 1, none⟩) hgl).trans t1
      have T1 := cell_regrown t1'
      have i0 : (0 : Int) ≤ (k : Int) := by omega
      have i1 : (k : Int) < (m : Int) := by omega
      clear t0 t1 t1'
      go_wp2_with fail
      refine region_laterL 8 (by kernel_rfl) ?_
      refine phase_laterL (by kernel_rfl) 3 (below_drew _) [0, 4, 5, 1, 2, 3] rfl (by kernel_rfl) ?_
      simp only [picks, nth]
      repeat (go_big_quiet_step (fail))
      refine wpQuiet_nil ?_
      refine phase_opL 6 2 rfl (by kernel_rfl) (by decide) ?_
      simp only [nth]
      go_wp2_with fail
      refine (OWN.out).mono ?_
      rintro e w3 ⟨A3, c3, rfl, o3, b3⟩
      have b3' : Below w1.heap.size w1 w3 := (below_drew w1).trans b3
      go_wp2_with fail
      refine behind_laterL b3' ?_
      refine phase_laterL (by kernel_rfl) 1 (Below.refl _ _) [7] rfl (by kernel_rfl) ?_
      simp only [picks, nth]
      repeat (go_big_quiet_step (fail))
      refine wpQuiet_nil ?_
      have d3 := below_step b1 b3' (Nat.le_refl _)
      have e3 := (d3.cell (p := ⟨gv, k, none⟩) hg).trans hcell
      have f3 := (d3.frozen (p := ⟨gv, k, none⟩) hg).trans hfr
      refine phase_last 0 rfl (by kernel_rfl) (by decide) (by kernel_rfl) ?_
      simp only [nth]
      go_wp2_with fail
      refine behind_last ?_
      go_wp2_with fail
      go_ret
      have o3' : OB w3 w.heap.size A3 n' c3 b := o3.more b1.drew.size
      have hput := HM.out (w1 := w3) d3 o3'
      have M2 : Mv (fun q => q = gv) w (w3.setCell ⟨gv, k, none⟩ (.slice A3 n' c3)) := (Mv.of_new d3 _).trans (Mv.setCell w3 ⟨gv, k, none⟩ (.slice A3 n' c3)) fun b _ h => h
      refine ⟨by rw [← HZ.out]; rfl, M2, vs.set k (.slice A3 n' c3), ?_⟩
      rw [HP.out]
      exact hput.mono fun q hq hf => by
        rcases hf with hf | hf
        · exact .inl hf
        · exact .inr ⟨hf.1, by simpa [World.setCell] using hf.2⟩
    · have hp : Dc.pokeS D x y b = D := by unfold Dc.pokeS; rw [hf]; dsimp only; rw [if_neg hv]
      generalize Ent.valS (D.l.getD k Dc.en0) b = z at *
      have ez : (z == 0) = false := beq_false_of_ne hv
      replace M := Lib.hid M
      have HP := Lib.hid hp; have HZ := Lib.hid hz0
      clear hp hz0 hv hf hm
      go_enter Tryz.func47, Tryz.ntmps47
      go_wp2_with fail
      refine (M.out).mono ?_
      rintro e w1 ⟨rfl, b1⟩
      go_wp2_with fail
      go_ret
      exact poke_no h b1 HZ.out HP.out
set_option maxRecDepth 100000 in
set_option maxHeartbeats 4000000 in
theorem dPoke_any {F : Nat → Prop} {w : World} {g gv lc vc : Nat} {la : Addr} {vA : Option Addr} {xs vs : List Value} {D : Dc.Dic} (x y : Int) {A' : Option Addr} {n' c' B : Nat} {b : List UInt8} (h : DRt 112 w F g gv (some la) lc vA vc xs vs D) (hb : RB w B A' n' c' b) (hB : B ≤ w.heap.size) (hn : n' < 140737488355328) : Calls Tryz.prog 36 #[.pointer (some ⟨g, 0, none⟩), .int .i64 x, .int .i64 y, .slice A' n' c'] w (PokeP (t := 112) D x y b w F g gv (some la) lc vA vc xs) := by
  have M := Lib.hid (dput_any x y h hb hB hn)
  clear h hb
  go_enter Tryz.func36, Tryz.ntmps36
  go_wp2_with fail
  refine (M.out).mono ?_
  rintro e w1 ⟨rfl, h1, vs', h2⟩
  go_wp2_with fail
  go_ret
  exact ⟨rfl, h1, vs', h2⟩
end Go.Proofs.YtgkhpebhhkdgoaaGreat
/-
  Walks: Find, missing, Poke of layer 15's reference, Lent of layer 14's.
  Conditions: none.
-/
namespace Go.Proofs.YtgkhpebhhkdgoaaGreat
set_option linter.unusedVariables false
set_option linter.unusedSimpArgs false
open Go.RowKit
namespace Dc
def rfK (l : List Ent.En) (x y : Int) : Nat → Int
  | 0 => -2
  | i + 1 => if (l.getD i en0).index ≠ x then rfK l x y i else if (l.getD i en0).sub = y then (i : Int) else if rfK l x y i = -2 then -1 else rfK l x y i
theorem rfK_spec {l : List Ent.En} (ho : Ord l) {x y : Int} : ∀ i, i ≤ l.length →
    (∃ k : Nat, k < i ∧ (l.getD k en0).index = x ∧ (l.getD k en0).sub = y ∧ rfK l x y i = (k : Int)) ∨
    ((∀ k : Nat, k < i → ¬ ((l.getD k en0).index = x ∧ (l.getD k en0).sub = y)) ∧ (∃ k : Nat, k < i ∧ (l.getD k en0).index = x) ∧ rfK l x y i = -1) ∨
    ((∀ k : Nat, k < i → (l.getD k en0).index ≠ x) ∧ rfK l x y i = -2)
  | 0, _ => .inr (.inr ⟨fun k hk => absurd hk (by omega), rfl⟩)
  | i + 1, hi => by
    have ih := rfK_spec ho i (by omega) (x := x) (y := y)
    by_cases h1 : (l.getD i en0).index = x
    · by_cases h2 : (l.getD i en0).sub = y
      · refine .inl ⟨i, by omega, h1, h2, ?_⟩
        rw [rfK, if_neg (by simpa using h1), if_pos h2]
      · rw [rfK, if_neg (by simpa using h1), if_neg h2]
        rcases ih with ⟨k, k1, k2, k3, k4⟩ | ⟨k1, k2, k3⟩ | ⟨k1, k2⟩
        · refine .inl ⟨k, by omega, k2, k3, ?_⟩
          rw [k4, if_neg (by omega)]
        · right; left
          refine ⟨fun k hk => ?_, ⟨i, by omega, h1⟩, by rw [k3]; rfl⟩
          rcases Nat.lt_or_ge k i with h | h
          · exact k1 k h
          · obtain rfl : k = i := by omega
            exact fun h => h2 h.2
        · right; left
          refine ⟨fun k hk => ?_, ⟨i, by omega, h1⟩, by rw [k2]; rfl⟩
          rcases Nat.lt_or_ge k i with h | h
          · exact fun h3 => k1 k h h3.1
          · obtain rfl : k = i := by omega
            exact fun h => h2 h.2
    · rw [rfK, if_pos h1]
      rcases ih with ⟨k, k1, k2, k3, k4⟩ | ⟨k1, ⟨j, j1, j2⟩, k3⟩ | ⟨k1, k2⟩
      · exact .inl ⟨k, by omega, k2, k3, k4⟩
      · right; left
        refine ⟨fun k hk => ?_, ⟨j, by omega, j2⟩, k3⟩
        rcases Nat.lt_or_ge k i with h | h
        · exact k1 k h
        · obtain rfl : k = i := by omega
          exact fun h => h1 h.1
      · right; right
        refine ⟨fun k hk => ?_, k2⟩
        rcases Nat.lt_or_ge k i with h | h
        · exact k1 k h
        · obtain rfl : k = i := by omega
          exact h1
theorem rfK_all {l : List Ent.En} (ho : Ord l) (x y : Int) : rfK l x y l.length = rfind l x y := by
  unfold rfind
  rcases rfK_spec ho l.length (Nat.le_refl _) (x := x) (y := y) with ⟨k, k1, k2, k3, k4⟩ | ⟨k1, ⟨j, j1, j2⟩, k3⟩ | ⟨k1, k2⟩
  · cases h : findS l x y with
    | none => exact absurd ⟨k2, k3⟩ (find_none ho h k1)
    | some m =>
      obtain ⟨_, m2, m3, m4⟩ := find_some h
      rw [k4]
      have : k = m := by
        rcases Nat.lt_trichotomy k m with h1 | h1 | h1
        · have := ord_lt2 ho h1 m2; unfold Lt at this; omega
        · exact h1
        · have := ord_lt2 ho h1 k1; unfold Lt at this; omega
      rw [this]
  · cases h : findS l x y with
    | none =>
      dsimp only
      rw [if_pos (by unfold inB; rw [List.any_eq_true]; exact ⟨l.getD j en0, by rw [List.getD_eq_getElem?_getD, List.getElem?_eq_getElem j1]; exact List.getElem_mem j1, by simpa using j2⟩), k3]
    | some m =>
      obtain ⟨_, m2, m3, m4⟩ := find_some h
      exact absurd ⟨m3, m4⟩ (k1 m m2)
  · cases h : findS l x y with
    | none =>
      dsimp only
      rw [if_neg, k2]
      intro hi
      unfold inB at hi
      rw [List.any_eq_true] at hi
      obtain ⟨e, he, hx⟩ := hi
      obtain ⟨j, hj, rfl⟩ := List.getElem_of_mem he
      have := k1 j hj
      rw [List.getD_eq_getElem?_getD, List.getElem?_eq_getElem hj] at this
      exact this (by simpa using hx)
    | some m =>
      obtain ⟨_, m2, m3, m4⟩ := find_some h
      exact absurd m3 (k1 m m2)
end Dc
set_option maxRecDepth 100000 in
set_option maxHeartbeats 4000000 in
theorem rFind_any {F : Nat → Prop} {w : World} {g gv lc vc : Nat} {lA vA : Option Addr} {xs vs : List Value} {D : Dc.Dic} (x y : Int) (h : DRt 109 w F g gv lA lc vA vc xs vs D) : Calls Tryz.prog 52 #[.pointer (some ⟨g, 0, none⟩), .int .i64 x, .int .i64 y] w fun e w' => e = .returned (.int .i64 (Dc.rfind D.l x y)) ∧ w = w' := by
  obtain ⟨t0, t1⟩ := h.two
  have hfew := h.few
  have hcap := h.lcap
  have HRES : Hid (Dc.rfK D.l x y D.l.length = Dc.rfind D.l x y) := Lib.hid (Dc.rfK_all h.ord x y)
  generalize Dc.rfind D.l x y = res at *
  go_enter Tryz.func52, Tryz.ntmps52
  go_wp2_with fail
  go_loop [7, 8] (fun v i => ∃ k : Nat, k ≤ D.l.length ∧ i = .int .i64 k ∧ v = .int .i64 (Dc.rfK D.l x y k)) (fun _ i => D.l.length - (intOf i).toNat)
  case atStart => exact ⟨0, by omega, rfl, rfl⟩
  case round =>
    obtain ⟨k, hk, rfl, rfl⟩ := hrel
    by_cases hlt : k < D.l.length
    · obtain ⟨b, o, A, n, c, hA, hbB, hr, hc⟩ := h.entry hlt
      have c0 := hc 0 _ rfl
      have c1 := hc 1 _ rfl
      have hst : Dc.rfK D.l x y (k + 1) = if (D.l.getD k Dc.en0).index ≠ x then Dc.rfK D.l x y k else if (D.l.getD k Dc.en0).sub = y then (k : Int) else if Dc.rfK D.l x y k = -2 then -1 else Dc.rfK D.l x y k := rfl
      generalize hix : (D.l.getD k Dc.en0).index = ix at *
      generalize hsb : (D.l.getD k Dc.en0).sub = sb at *
      generalize hcur : Dc.rfK D.l x y k = cur at *
      subst hA
      simp only [Nat.add_zero] at c0
      clear hc hr hix hsb
      by_cases h1 : ix = x
      · rw [if_neg (by simpa using h1)] at hst
        subst h1
        have e1 : (ix != ix) = false := by simp
        by_cases h2 : sb = y
        · rw [if_pos h2] at hst
          subst h2
          have e2 : (sb == sb) = true := by simp
          have HST := Lib.hid hst
          clear hst hcur
          by_cases h3 : cur = -2
          · subst h3
            go_wp2_with fail
            go_round
            case rel => exact ⟨k + 1, by omega, by go_num, by rw [HST.out]⟩
            case measure => simp [intOf] <;> omega
          · have e3 : (cur == -2) = false := beq_false_of_ne h3
            clear h3
            go_wp2_with fail
            go_round
            case rel => exact ⟨k + 1, by omega, by go_num, by rw [HST.out]⟩
            case measure => simp [intOf] <;> omega
        · rw [if_neg h2] at hst
          have e2 : (sb == y) = false := beq_false_of_ne h2
          by_cases h3 : cur = -2
          · subst h3
            rw [if_pos rfl] at hst
            have HST := Lib.hid hst
            clear hst hcur h2
            go_wp2_with fail
            go_round
            case rel => exact ⟨k + 1, by omega, by go_num, by rw [HST.out]⟩
            case measure => simp [intOf] <;> omega
          · rw [if_neg h3] at hst
            have e3 : (cur == -2) = false := beq_false_of_ne h3
            have HST := Lib.hid hst
            clear hst hcur h2 h3
            go_wp2_with fail
            go_round
            case rel => exact ⟨k + 1, by omega, by go_num, by rw [HST.out]⟩
            case measure => simp [intOf] <;> omega
      · rw [if_pos h1] at hst
        have e1 : (ix != x) = true := by simpa using h1
        have HST := Lib.hid hst
        clear hst hcur h1
        go_wp2_with fail
        go_round
        case rel => exact ⟨k + 1, by omega, by go_num, by rw [HST.out]⟩
        case measure => simp [intOf] <;> omega
    · obtain rfl : k = D.l.length := by omega
      go_wp2_with fail
      go_ret
      exact ⟨by rw [← HRES.out]; rfl, rfl⟩
set_option maxRecDepth 100000 in
set_option maxHeartbeats 4000000 in
theorem missing_any (k : Int) (w : World) : Calls Tryz.prog 63 #[.int .i64 k] w fun e w' => e = .returned (.int .u32 (if k = -2 then 100794368 else 101253137)) ∧ w = w' := by
  by_cases h : k = -2
  · subst h
    go_enter Tryz.func63, Tryz.ntmps63
    go_wp2_with fail
    go_ret
    exact ⟨rfl, rfl⟩
  · rw [if_neg h]
    have e1 : (k == -2) = false := beq_false_of_ne h
    clear h
    go_enter Tryz.func63, Tryz.ntmps63
    go_wp2_with fail
    go_ret
    exact ⟨rfl, rfl⟩
theorem rpoke_code {D : Dc.Dic} {x y : Int} {b : List UInt8} (hf : Dc.findS D.l x y = none) : (if Dc.rfind D.l x y = -2 then (100794368 : Int) else 101253137) = Dc.mayS D.l true x y b := by
  unfold Dc.rfind Dc.mayS
  rw [hf]
  dsimp only
  cases Dc.inB D.l x <;> rfl
set_option maxRecDepth 100000 in
set_option maxHeartbeats 4000000 in
theorem rPoke_any {F : Nat → Prop} {w : World} {g gv lc vc : Nat} {lA vA : Option Addr} {xs vs : List Value} {D : Dc.Dic} (x y : Int) {A' : Option Addr} {n' c' B : Nat} {b : List UInt8} (h : DRt 109 w F g gv lA lc vA vc xs vs D) (hb : RB w B A' n' c' b) (hB : B ≤ w.heap.size) (hn : n' < 140737488355328) : Calls Tryz.prog 37 #[.pointer (some ⟨g, 0, none⟩), .int .i64 x, .int .i64 y, .slice A' n' c'] w (PokeP (t := 109) D x y b w F g gv lA lc vA vc xs) := by
  have FD := rFind_any x y h
  cases hf : Dc.findS D.l x y with
  | none =>
    have hp : Dc.pokeS D x y b = D := by unfold Dc.pokeS; rw [hf]
    have MS := fun w => missing_any (Dc.rfind D.l x y) w
    rw [rpoke_code (b := b) hf] at MS
    have hneg : Dc.rfind D.l x y < 0 := by unfold Dc.rfind; rw [hf]; dsimp only; split <;> omega
    generalize Dc.rfind D.l x y = rf at *
    replace FD := Lib.hid FD; replace MS := Lib.hid MS
    have HP := Lib.hid hp
    have hd : decide (rf < 0) = true := decide_eq_true hneg
    clear hp hf hneg
    go_enter Tryz.func37, Tryz.ntmps37
    go_wp2_with fail
    refine (FD.out).mono ?_
    rintro e w1 ⟨rfl, rfl⟩
    go_wp2_with fail
    refine (MS.out _).mono ?_
    rintro e w2 ⟨rfl, rfl⟩
    go_wp2_with fail
    go_ret
    exact poke_no h (Below.refl _ _) rfl HP.out
  | some k =>
    have hk := (Dc.find_some hf).2.1
    have hm : Dc.mayS D.l true x y b = Ent.valS (D.l.getD k Dc.en0) b := by unfold Dc.mayS; rw [hf]; simp
    have hrf : Dc.rfind D.l x y = (k : Int) := by unfold Dc.rfind; rw [hf]
    rw [hrf] at FD
    replace FD := Lib.hid FD
    obtain ⟨t0, t1⟩ := h.two
    obtain ⟨bb, o, Ae, ne, ce, hAe, hbB, hre, hc⟩ := h.entry hk
    have hlc := h.lcap
    have V := RValue_any (D.l.getD k Dc.en0) Ae ne ce w hb hB
    unfold enV at V
    have c0 := hc 0 _ rfl
    have c1 := hc 1 _ rfl
    have c2 := hc 2 _ rfl
    have c3 := hc 3 _ rfl
    have c4 := hc 4 _ rfl
    have c5 := hc 5 _ rfl
    have c6 := hc 6 _ rfl
    have c7 := hc 7 _ rfl
    have c8 := hc 8 _ rfl
    have c9 := hc 9 _ rfl
    have c10 := hc 10 _ rfl
    simp only [Nat.add_zero] at c0
    subst hAe
    by_cases hv : Ent.valS (D.l.getD k Dc.en0) b = 0
    · have hp : Dc.pokeS D x y b = ⟨D.l, D.v.set k b⟩ := by unfold Dc.pokeS; rw [hf]; dsimp only; rw [if_pos hv]
      rw [hv] at V hm
      replace V := Lib.hid V
      have HP := Lib.hid hp; have HZ := Lib.hid hm
      obtain ⟨A, n, c, hA, hF, hg, hr, hcell, hfr⟩ := h.value hk
      subst hA
      have hcap : D.l.length ≤ vc ∧ vc ≤ 9223372036854775807 := ⟨h.own.rv.le, h.own.rv.cap⟩
      have HC := Lib.hid hcap; have HLC := Lib.hid hlc
      have hgl := h.blk.lt
      have HM : Hid (∀ {w1 : World} {n c : Nat} {A : Option Addr}, Below w.heap.size w w1 → OB w1 w.heap.size A n c b → DRt 109 (w1.setCell ⟨gv, k, none⟩ (.slice A n c)) (fun q => F q ∨ (w.heap.size ≤ q ∧ q < w1.heap.size)) g gv (some ⟨bb, o, none⟩) lc (some ⟨gv, 0, none⟩) vc xs (vs.set k (.slice A n c)) ⟨D.l, D.v.set k b⟩) := Lib.hid fun h1 h2 => h.put hk h1 h2
      clear hp hv hf hm hrf hcap hlc hr hre hc h
      generalize hmm : D.l.length = m at *
      have HMM := Lib.hid hmm
      clear hmm
      generalize D.l.getD k Dc.en0 = e0 at *
      go_enter Tryz.func37, Tryz.ntmps37
      go_wp2_with fail
      refine (FD.out).mono ?_
      rintro e w ⟨rfl, rfl⟩
      have i0 : (0 : Int) ≤ (k : Int) := by omega
      have i1 : (k : Int) < (m : Int) := by omega
      go_wp2_with fail
      refine (V.out).mono ?_
      rintro e w1 ⟨rfl, b1⟩
      have J := Lib.hid (Join_any w1.drew (RB.none_ (B := 0)) (hb.below (b1.drew.mono hB)) (by omega) (Nat.zero_le _) (Nat.le_trans hB b1.drew.size))
      have T1 := cell_regrown ((b1.cell (p := ⟨g, 1, none⟩) hgl).trans t1)
      clear t0 t1
      go_wp2_with fail
      refine region_laterL 8 (by kernel_rfl) ?_
      refine phase_laterL (by kernel_rfl) 3 (below_drew _) [0, 4, 5, 1, 2, 3] rfl (by kernel_rfl) ?_
      simp only [picks, nth]
      repeat (go_big_quiet_step (fail))
      refine wpQuiet_nil ?_
      refine phase_opL 6 2 rfl (by kernel_rfl) (by decide) ?_
      simp only [nth]
      go_wp2_with fail
      refine (J.out).mono ?_
      rintro e w3 ⟨A3, c3, rfl, o3, b3⟩
      have b3' : Below w1.heap.size w1 w3 := (below_drew w1).trans b3
      rw [List.nil_append] at o3
      simp only [Nat.zero_add] at o3 ⊢
      go_wp2_with fail
      refine behind_laterL b3' ?_
      refine phase_laterL (by kernel_rfl) 1 (Below.refl _ _) [7] rfl (by kernel_rfl) ?_
      simp only [picks, nth]
      repeat (go_big_quiet_step (fail))
      refine wpQuiet_nil ?_
      have d3 := below_step b1 b3' (Nat.le_refl _)
      have e3 := (d3.cell (p := ⟨gv, k, none⟩) hg).trans hcell
      have f3 := (d3.frozen (p := ⟨gv, k, none⟩) hg).trans hfr
      refine phase_last 0 rfl (by kernel_rfl) (by decide) (by kernel_rfl) ?_
      simp only [nth]
      go_wp2_with fail
      refine behind_last ?_
      go_wp2_with fail
      go_ret
      have o3' : OB w3 w.heap.size A3 n' c3 b := o3.more b1.drew.size
      have hput := HM.out (w1 := w3) d3 o3'
      have M2 : Mv (fun q => q = gv) w (w3.setCell ⟨gv, k, none⟩ (.slice A3 n' c3)) := (Mv.of_new d3 _).trans (Mv.setCell w3 ⟨gv, k, none⟩ (.slice A3 n' c3)) fun b _ h => h
      refine ⟨by rw [HZ.out]; rfl, M2, vs.set k (.slice A3 n' c3), ?_⟩
      rw [HP.out]
      exact hput.mono fun q hq hf => by
        rcases hf with hf | hf
        · exact .inl hf
        · exact .inr ⟨hf.1, by simpa [World.setCell] using hf.2⟩
    · have hp : Dc.pokeS D x y b = D := by unfold Dc.pokeS; rw [hf]; dsimp only; rw [if_neg hv]
      have HZ := Lib.hid hm
      have HP := Lib.hid hp
      generalize hvv : Ent.valS (D.l.getD k Dc.en0) b = z at *
      have HVV := Lib.hid hvv
      have ez : (z == 0) = false := beq_false_of_ne hv
      replace V := Lib.hid V
      have HLC := Lib.hid hlc
      have HH := Lib.hid h
      clear hp hv hf hm hrf hlc hre hc hvv h
      generalize D.l.length = m at *
      generalize D.l.getD k Dc.en0 = e0 at *
      go_enter Tryz.func37, Tryz.ntmps37
      go_wp2_with fail
      refine (FD.out).mono ?_
      rintro e w ⟨rfl, rfl⟩
      go_wp2_with fail
      refine (V.out).mono ?_
      rintro e w1 ⟨rfl, b1⟩
      go_wp2_with fail
      go_ret
      exact poke_no HH.out b1 HZ.out.symm HP.out
end Go.Proofs.YtgkhpebhhkdgoaaGreat
/-
  A dictionary that is being made; entries that are read.
  Conditions: none.
-/
namespace Go.Proofs.YtgkhpebhhkdgoaaGreat
set_option linter.unusedVariables false
set_option linter.unusedSimpArgs false
open Go.RowKit
/-- An entry's cells, its bytes the call's own. -/
def EnB (w : World) (base : Nat) (e : Ent.En) (cs : List Value) : Prop := ∃ A n c, cs = enL e A n c ∧ OB w base A n c e.dflt
def ByB (w : World) (base : Nat) (b : List UInt8) (cs : List Value) : Prop := ∃ A n c, cs = [.slice A n c] ∧ OB w base A n c b
section
variable {w w' : World} {base base' g i e size n c : Nat} {t : TypeId} {A : Option Addr} {l : List UInt8} {xs : List Value} {ds : Array Value} {u : Value}
/-- Bytes of the call's own are kept where rows of another type are written. -/
theorem OB.beside (h : OB w base A n c l) {A' : Option Addr} {n' c' : Nat} {xs' : List Value} (h' : OV w base' e size A' n' c' xs') (hne : e ≠ 5) (hg : w.grownBy w' (Value.slice A' n' c').ownBlock) : OB w' base A n c l := OB.kept h hg (own_own_ne h' h hne)
theorem OB.off (h : OB w base A n c l) (hb : Blk w g t ds) (ht : t ≠ 5) : OB (w.setCell ⟨g, i, none⟩ u) base A n c l :=
  OB.kept h (row := some g) (grown_setCell (World.grownBy.refl _ _) (.inl rfl) u) (.inr (own_blk_ne h hb (Ne.symm ht)))
theorem OV.off (h : OV w base e size A n c xs) (hb : Blk w g t ds) (ht : t ≠ e) : OV (w.setCell ⟨g, i, none⟩ u) base e size A n c xs :=
  OV.kept h (row := some g) (grown_setCell (World.grownBy.refl _ _) (.inl rfl) u) (.inr (own_blk_ne h hb (Ne.symm ht)))
theorem OV.beside (h : OV w base e size A n c xs) {e' size' : Nat} {A' : Option Addr} {n' c' : Nat} {xs' : List Value} (h' : OV w base' e' size' A' n' c' xs') (hne : e' ≠ e) (hg : w.grownBy w' (Value.slice A' n' c').ownBlock) : OV w' base e size A n c xs := OV.kept h hg (own_own_ne h' h hne)
theorem Blk.beside (h : Blk w g t ds) {A' : Option Addr} {n' c' : Nat} {xs' : List Value} (h' : OV w base' e size A' n' c' xs') (hne : e ≠ t) (hg : w.grownBy w' (Value.slice A' n' c').ownBlock) : Blk w' g t ds := h.grown hg (fun q => own_blk_ne h' h hne q.symm)
end
section
variable {w w' : World} {base g i size n c : Nat} {t e' : TypeId} {e : Ent.En} {b : List UInt8} {cs xs : List Value} {A : Option Addr} {ds : Array Value} {u : Value}
theorem EnB.below (h : EnB w base e cs) (hb : Below w.heap.size w w') : EnB w' base e cs := by obtain ⟨A, n, c, h1, h2⟩ := h; exact ⟨A, n, c, h1, h2.below hb⟩
theorem ByB.below (h : ByB w base b cs) (hb : Below w.heap.size w w') : ByB w' base b cs := by obtain ⟨A, n, c, h1, h2⟩ := h; exact ⟨A, n, c, h1, h2.below hb⟩
theorem EnB.beside {base' : Nat} (h : EnB w base e cs) (h' : OV w base' e' size A n c xs) (hne : e' ≠ 5) (hg : w.grownBy w' (Value.slice A n c).ownBlock) : EnB w' base e cs := by obtain ⟨A1, n1, c1, h1, h2⟩ := h; exact ⟨A1, n1, c1, h1, h2.beside h' hne hg⟩
theorem ByB.beside {base' : Nat} (h : ByB w base b cs) (h' : OV w base' e' size A n c xs) (hne : e' ≠ 5) (hg : w.grownBy w' (Value.slice A n c).ownBlock) : ByB w' base b cs := by obtain ⟨A1, n1, c1, h1, h2⟩ := h; exact ⟨A1, n1, c1, h1, h2.beside h' hne hg⟩
theorem EnB.off (h : EnB w base e cs) (hb : Blk w g t ds) (ht : t ≠ 5) : EnB (w.setCell ⟨g, i, none⟩ u) base e cs := by obtain ⟨A1, n1, c1, h1, h2⟩ := h; exact ⟨A1, n1, c1, h1, h2.off hb ht⟩
theorem ByB.off (h : ByB w base b cs) (hb : Blk w g t ds) (ht : t ≠ 5) : ByB (w.setCell ⟨g, i, none⟩ u) base b cs := by obtain ⟨A1, n1, c1, h1, h2⟩ := h; exact ⟨A1, n1, c1, h1, h2.off hb ht⟩
end
/-- A dictionary that is being made, at block g. -/
structure NwM (t : TypeId) (w : World) (base g : Nat) (lA : Option Addr) (kl lc : Nat) (vA : Option Addr) (kv vc : Nat) (es : List Ent.En) (bs : List (List UInt8)) : Prop where
  gb : base ≤ g
  blk : Blk w g t #[.slice lA kl lc, .slice vA kv vc]
  row : OS (EnB w base) w base 82 11 lA kl lc es
  vrow : OS (ByB w base) w base 24 1 vA kv vc bs
section
variable {t : TypeId} {w w' : World} {base g kl lc kv vc : Nat} {lA vA : Option Addr} {es : List Ent.En} {bs : List (List UInt8)}
theorem NwM.below (h : NwM t w base g lA kl lc vA kv vc es bs) (hb : Below w.heap.size w w') : NwM t w' base g lA kl lc vA kv vc es bs :=
  ⟨h.gb, h.blk.later hb, OS.below h.row hb fun _ _ k => k.below hb, OS.below h.vrow hb fun _ _ k => k.below hb⟩
/-- Behind an append to its entries, and the store of the new slice. -/
theorem NwM.addl (h : NwM t w base g lA kl lc vA kv vc es bs) (ht : t ≠ 5) (hte : t ≠ 82) (htv : t ≠ 24) {A1 : Option Addr} {k1 c1 : Nat} {es' : List Ent.En} (hrow : OS (EnB w' base) w' base 82 11 A1 k1 c1 es') (hg : w.grownBy w' (Value.slice lA kl lc).ownBlock) :
    NwM t (w'.setCell ⟨g, 0, none⟩ (.slice A1 k1 c1)) base g A1 k1 c1 vA kv vc es' bs := by
  have hr := h.row
  obtain ⟨xs0, r0, _⟩ := hr
  have hb : Blk w' g t #[.slice lA kl lc, .slice vA kv vc] := h.blk.beside r0 (Ne.symm hte) hg
  refine ⟨h.gb, hb.set_ 0 _, ?_, ?_⟩
  · obtain ⟨ys, o1, o2⟩ := hrow
    exact ⟨ys, o1.off hb hte, o2.imp fun _ _ k => k.off hb ht⟩
  · obtain ⟨ys, o1, o2⟩ := h.vrow
    have o1' := OV.beside o1 r0 (by decide) hg
    exact ⟨ys, o1'.off hb htv, o2.imp fun _ _ k => (k.beside r0 (by decide) hg).off hb ht⟩
theorem NwM.addv (h : NwM t w base g lA kl lc vA kv vc es bs) (ht : t ≠ 5) (hte : t ≠ 82) (htv : t ≠ 24) {A1 : Option Addr} {k1 c1 : Nat} {bs' : List (List UInt8)} (hrow : OS (ByB w' base) w' base 24 1 A1 k1 c1 bs') (hg : w.grownBy w' (Value.slice vA kv vc).ownBlock) :
    NwM t (w'.setCell ⟨g, 1, none⟩ (.slice A1 k1 c1)) base g lA kl lc A1 k1 c1 es bs' := by
  have hr := h.vrow
  obtain ⟨xs0, r0, _⟩ := hr
  have hb : Blk w' g t #[.slice lA kl lc, .slice vA kv vc] := h.blk.beside r0 (Ne.symm htv) hg
  refine ⟨h.gb, hb.set_ 1 _, ?_, ?_⟩
  · obtain ⟨ys, o1, o2⟩ := h.row
    have o1' := OV.beside o1 r0 (by decide) hg
    exact ⟨ys, o1'.off hb hte, o2.imp fun _ _ k => (k.beside r0 (by decide) hg).off hb ht⟩
  · obtain ⟨ys, o1, o2⟩ := hrow
    exact ⟨ys, o1.off hb htv, o2.imp fun _ _ k => k.off hb ht⟩
/-- Made. -/
theorem NwM.made {n : Nat} (h : NwM t w base g lA n lc vA n vc es bs) (ht : t ≠ 5) (hte : t ≠ 82) (htv : t ≠ 24) (hl : es.length = n) (hbs : bs.length = n) (ho : Dc.Ord es) (h96 : n ≤ 96) (hr : ∀ e ∈ es, Ent.rightS e = 0) :
    ∃ gv xs vs, DRt t w (fun q => base ≤ q) g gv lA lc vA vc xs vs ⟨es, bs⟩ := by
  obtain ⟨xs, r1, r2⟩ := h.row
  obtain ⟨vs, v1, v2⟩ := h.vrow
  subst hl
  have hgl := h.blk.lt
  have hgv : ∃ gv, gv ≠ g ∧ (∀ k, (Value.slice vA es.length vc).ownBlock = some k → k = gv) ∧ ∀ {e' size' n' c' : Nat} {A' : Option Addr} {zs : List Value}, OV w base e' size' A' n' c' zs → 24 ≠ e' → ∀ k, (Value.slice A' n' c').ownBlock = some k → k ≠ gv := by
    cases hk : (Value.slice vA es.length vc).ownBlock with
    | none => exact ⟨w.heap.size, by omega, (fun k e => by cases e), (fun ho _ k hk => by have := (ho.lt k hk).2; omega)⟩
    | some q =>
      refine ⟨q, fun e => own_blk_ne v1 h.blk (Ne.symm htv) (by rw [hk, e]), (fun k e => by injection e with e; exact e.symm), fun ho hne k hk2 e => ?_⟩
      rcases own_own_ne v1 ho hne with h5 | h5
      · rw [h5] at hk2; cases hk2
      · exact h5 (by rw [hk2, hk, e])
  obtain ⟨gv, g1, g2, g3⟩ := hgv
  have bytes : ∀ {A : Option Addr} {n c : Nat} {b : List UInt8}, OB w base A n c b → RBp w (Fx (fun q => base ≤ q) g gv) A n c b := fun ho => ho.rbp fun k hk =>
    ⟨(ho.lt k hk).1, fun e => own_blk_ne ho h.blk (Ne.symm ht) (by rw [hk, e]), g3 (A' := _) (zs := _) ho (by decide) k hk⟩
  refine ⟨gv, xs, vs, { fg := h.gb, ne := Ne.symm g1, blk := h.blk, row := r1.rvp fun k hk => ⟨(r1.lt k hk).1, fun e => own_blk_ne r1 h.blk (Ne.symm hte) (by rw [hk, e]), g3 r1 (by decide) k hk⟩, rows := r2.imp fun e cs he => ?_, own := v1.more (Nat.zero_le _), at_ := fun k hk => ?_, vals := v2.imp fun b cs hb => ?_, len := hbs, ord := ho, few := h96, right := hr }⟩
  · obtain ⟨A, n, c, e1, e2⟩ := he
    exact ⟨A, n, c, e1, bytes e2⟩
  · have := g2 k hk
    exact ⟨this, by rw [← this]; exact (v1.lt k hk).1⟩
  · obtain ⟨A, n, c, e1, e2⟩ := hb
    exact ⟨A, n, c, e1, bytes e2⟩
end
/-- An entry's cells, as they are read. -/
def EnC (w : World) (B : Nat) (e : Ent.En) (cs : List Value) : Prop := ∃ A n c, cs = enL e A n c ∧ RB w B A n c e.dflt
/-- Entries that are read; their bytes below B'. -/
def REn (w : World) (B B' : Nat) (A : Option Addr) (n c : Nat) (es : List Ent.En) : Prop := RS (EnC w B') w B 11 A n c es
section
variable {w w' : World} {B B' n c : Nat} {A : Option Addr} {es : List Ent.En}
theorem REn.len (h : REn w B B' A n c es) : es.length = n := RS.len h (by decide)
theorem REn.lt (h : REn w B B' A n c es) : n ≤ 9223372036854775807 := RS.lt h
theorem REn.below (h : REn w B B' A n c es) (hb : Below B w w') (hB : B' ≤ B) : REn w' B B' A n c es := RS.below h hb fun _ _ k => by
  obtain ⟨A, n, c, h1, h2⟩ := k
  exact ⟨A, n, c, h1, h2.below (hb.mono hB)⟩
theorem REn.at_ (h : REn w B B' A n c es) {i : Nat} (hi : i < n) : ∃ b o A1 n1 c1, A = some ⟨b, o, none⟩ ∧ b < B ∧ RB w B' A1 n1 c1 (es.getD i Dc.en0).dflt ∧
    ∀ j u, (enL (es.getD i Dc.en0) A1 n1 c1)[j]? = some u → w.cell? ⟨b, o + i * 11 + j, none⟩ = some u := by
  have hl := h.len
  have hf : es[i]? = some (es.getD i Dc.en0) := by simp [List.getD, List.getElem?_eq_getElem (show i < es.length by omega)]
  obtain ⟨b, o, cs, rfl, hb, ⟨A1, n1, c1, rfl, hr⟩, hc⟩ := RS.at_ h (by decide) hf
  exact ⟨b, o, A1, n1, c1, rfl, hb, hr, fun j u hu => hc j u (by have := (List.getElem?_eq_some_iff.1 hu).1; simpa [enL] using this) hu⟩
end
theorem en_oneCell (e : Ent.En) (A : Option Addr) (n c : Nat) : ∀ u ∈ enL e A n c, u.oneCell' = true := by
  intro u hu
  simp only [enL, List.mem_cons, List.not_mem_nil, or_false] at hu
  rcases hu with rfl | rfl | rfl | rfl | rfl | rfl | rfl | rfl | rfl | rfl | rfl <;> rfl
theorem newF_step {l : List Ent.En} {k n : Nat} (h : k < n) : Dc.newF l (n - k) k = if Ent.rightS (l.getD k Dc.en0) ≠ 0 then (Ent.rightS (l.getD k Dc.en0), k) else if 0 < k ∧ Ent.befB (l.getD (k - 1) Dc.en0) (l.getD k Dc.en0) = false then (16, k) else Dc.newF l (n - (k + 1)) (k + 1) := by
  obtain ⟨m, hm⟩ : ∃ m, n - k = m + 1 := ⟨n - k - 1, by omega⟩
  rw [hm, Dc.newF, show n - (k + 1) = m by omega]
/-- What New hands back: a dictionary, or why there is none. -/
def NewPost (t : TypeId) (es : List Ent.En) (w : World) (e : Ending) (w' : World) : Prop :=
  ((Dc.newS es).1 = 0 ∧ Below w.heap.size w w' ∧ ∃ (g gv lc vc : Nat) (la : Addr) (vA : Option Addr) (xs vs : List Value), e = .returned (.tuple #[.pointer (some ⟨g, 0, none⟩), .int .i64 0, .int .i64 0]) ∧ DRt t w' (fun q => w.heap.size ≤ q) g gv (some la) lc vA vc xs vs ⟨es, es.map (·.dflt)⟩) ∨
  ((Dc.newS es).1 ≠ 0 ∧ Below w.heap.size w w' ∧ e = .returned (.tuple #[.pointer none, .int .i64 (Dc.newS es).1, .int .i64 ((Dc.newS es).2 : Int)]))
theorem new_no {t : TypeId} {es : List Ent.En} {w w' : World} {x y : Int} {q : Nat} (h : Dc.newS es = (x, q)) (hx : x ≠ 0) (hy : y = (q : Int)) (hb : Below w.heap.size w w') : NewPost t es w (.returned (.tuple #[.pointer none, .int .i64 x, .int .i64 y])) w' := by
  subst hy
  exact .inr ⟨by rw [h]; exact hx, hb, by rw [h]⟩
end Go.Proofs.YtgkhpebhhkdgoaaGreat
