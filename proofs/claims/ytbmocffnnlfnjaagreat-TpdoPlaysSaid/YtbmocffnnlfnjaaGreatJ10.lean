/-
  Texts joined: DicMay, MapWord, MapFind, MapMem, MapOne, MapObj.
  Conditions: none.
-/
import Derived.Test.YtbmocffnnlfnjaaGreatJ02
import Derived.Test.YtbmocffnnlfnjaaGreatJ04
import Derived.Test.YtbmocffnnlfnjaaGreatJ05
import Derived.Test.YtbmocffnnlfnjaaGreatJ09
/-
  Walks: Peek, Entry, may, May of layer 15.
  Conditions: none.
-/
namespace Go.Proofs.YtbmocffnnlfnjaaGreat
set_option linter.unusedVariables false
set_option linter.unusedSimpArgs false
open Go.RowKit
theorem loc_some {l : List Ent.En} {x y : Int} {k : Nat} (h : Dc.findS l x y = some k) : locP l x y = ((k : Int), 0) := by unfold locP; rw [h]
theorem loc_none {l : List Ent.En} {x y : Int} (h : Dc.findS l x y = none) : locP l x y = (0, if Dc.inB l x = true then 101253137 else 100794368) := by unfold locP; rw [h]
theorem findP_some {l : List Ent.En} {x y : Int} {k : Nat} (h : Dc.findS l x y = some k) : findP l x y = ((k : Int), true) := by unfold findP; rw [h]
theorem findP_none {l : List Ent.En} {x y : Int} (h : Dc.findS l x y = none) : findP l x y = (0, false) := by unfold findP; rw [h]
/-- Bytes of a place, in new memory; false: there are none. -/
def PeekP (v : Option (List UInt8)) (w : World) (e : Ending) (w' : World) : Prop := match v with
  | none => e = .returned (.tuple #[.slice none 0 0, .bool false]) ∧ Below w.heap.size w w'
  | some b => ∃ A c, e = .returned (.tuple #[.slice A b.length c, .bool true]) ∧ OB w' w.heap.size A b.length c b ∧ Below w.heap.size w w'
theorem val_len {D : Dc.Dic} (hr : ∀ v ∈ D.v, v.length ≤ 1000000) {k : Nat} (hk : k < D.v.length) : (D.v.getD k []).length ≤ 1000000 := by
  rw [List.getD_eq_getElem?_getD, List.getElem?_eq_getElem hk]
  exact hr _ (List.getElem_mem hk)
set_option maxRecDepth 100000 in
set_option maxHeartbeats 4000000 in
theorem dPeek_any {F : Nat → Prop} {w : World} {g gv lc vc : Nat} {la : Addr} {vA : Option Addr} {xs vs : List Value} {D : Dc.Dic} (x y : Int) (h : DRt 66 w F g gv (some la) lc vA vc xs vs D) (hv : ∀ v ∈ D.v, v.length ≤ 1000000) : Calls Tryz.prog 92 #[.pointer (some ⟨g, 0, none⟩), .int .i64 x, .int .i64 y] w (PeekP (Dc.peekS D x y) w) := by
  have FD := dFind_any x y h
  cases hf : Dc.findS D.l x y with
  | none =>
    rw [findP_none hf] at FD
    dsimp only at FD
    replace FD := Lib.hid FD
    have hp : Dc.peekS D x y = none := by unfold Dc.peekS; rw [hf]; rfl
    rw [hp]
    clear hp hf h
    go_enter Tryz.func92, Tryz.ntmps92
    go_wp2_with fail
    refine (FD.out).mono ?_
    rintro e w1 ⟨rfl, b1⟩
    go_wp2_with fail
    go_ret2
    exact ⟨rfl, b1⟩
  | some k =>
    rw [findP_some hf] at FD
    dsimp only at FD
    replace FD := Lib.hid FD
    have hp : Dc.peekS D x y = some (D.v.getD k []) := by unfold Dc.peekS; rw [hf]; rfl
    rw [hp]
    have hk := (Dc.find_some hf).2.1
    have hvl := val_len hv (k := k) (by rw [h.len]; exact hk)
    clear hp hf
    go_enter Tryz.func92, Tryz.ntmps92
    go_wp2_with fail
    refine (FD.out).mono ?_
    rintro e w1 ⟨rfl, b1⟩
    have h2 := h.below b1
    obtain ⟨t0, t1⟩ := h2.two
    obtain ⟨A, n, c, hA, _, hg, hr, hcell, _⟩ := h2.value hk
    subst hA
    have hn := hr.len
    have OWN := Lib.hid (down_any w1 hr (by omega) (Nat.le_refl _))
    have hcap : D.l.length ≤ vc ∧ vc ≤ 9223372036854775807 := ⟨h2.own.rv.le, h2.own.rv.cap⟩
    have HC := Lib.hid hcap
    clear hr hcap
    generalize D.v.getD k [] = val at *
    subst hn
    generalize D.l.length = m at *
    go_wp2_with fail
    refine (OWN.out).mono ?_
    rintro e w2 ⟨A1, c1, rfl, o2, b2⟩
    go_wp2_with fail
    go_ret2
    exact ⟨A1, c1, rfl, o2.more b1.size, below_step b1 b2 (Nat.le_refl _)⟩
def mayP (l : List Ent.En) (any : Bool) (x y : Int) (b : List UInt8) : Int × Int := match Dc.findS l x y with
  | none => (0, if Dc.inB l x = true then 101253137 else 100794368)
  | some k => ((k : Int), if any = false ∧ Ent.writS (l.getD k Dc.en0) ≠ 0 then Ent.writS (l.getD k Dc.en0) else Ent.valS (l.getD k Dc.en0) b)
theorem mayP_snd (l : List Ent.En) (any : Bool) (x y : Int) (b : List UInt8) : (mayP l any x y b).2 = Dc.mayS l any x y b := by
  unfold mayP Dc.mayS
  cases Dc.findS l x y <;> rfl
set_option maxRecDepth 100000 in
set_option maxHeartbeats 4000000 in
theorem dmay_any {F : Nat → Prop} {w : World} {g gv lc vc : Nat} {la : Addr} {vA : Option Addr} {xs vs : List Value} {D : Dc.Dic} (any : Bool) (x y : Int) {A' : Option Addr} {n' c' B : Nat} {b : List UInt8} (h : DRt 66 w F g gv (some la) lc vA vc xs vs D) (hb : RB w B A' n' c' b) (hB : B ≤ w.heap.size) : Calls Tryz.prog 75 #[.pointer (some ⟨g, 0, none⟩), .int .i64 x, .int .i64 y, .slice A' n' c', .bool any] w fun e w' => e = .returned (.tuple #[.int .i64 (mayP D.l any x y b).1, .int .u32 (mayP D.l any x y b).2]) ∧ Below w.heap.size w w' := by
  have LC := dlocate_any x y h
  cases hf : Dc.findS D.l x y with
  | none =>
    rw [loc_none hf] at LC
    dsimp only at LC
    have hp : mayP D.l any x y b = (0, if Dc.inB D.l x = true then 101253137 else 100794368) := by unfold mayP; rw [hf]
    rw [hp]
    clear hp hf h hb
    dsimp only
    have hz : ((if Dc.inB D.l x = true then (101253137 : Int) else 100794368) == 0) = false := by split <;> rfl
    generalize (if Dc.inB D.l x = true then (101253137 : Int) else 100794368) = code at *
    replace LC := Lib.hid LC
    go_enter Tryz.func75, Tryz.ntmps75
    go_wp2_with fail
    refine (LC.out).mono ?_
    rintro e w1 ⟨rfl, b1⟩
    go_wp2_with fail
    go_ret2
    exact ⟨rfl, b1⟩
  | some k =>
    rw [loc_some hf] at LC
    dsimp only at LC
    replace LC := Lib.hid LC
    have hp : mayP D.l any x y b = ((k : Int), if any = false ∧ Ent.writS (D.l.getD k Dc.en0) ≠ 0 then Ent.writS (D.l.getD k Dc.en0) else Ent.valS (D.l.getD k Dc.en0) b) := by unfold mayP; rw [hf]
    rw [hp]
    dsimp only
    have hk := (Dc.find_some hf).2.1
    have hcap := h.lcap
    clear hp hf
    generalize he : D.l.getD k Dc.en0 = e0
    have HE := Lib.hid he
    clear he
    cases any with
    | true =>
      rw [if_neg (by simp)]
      go_enter Tryz.func75, Tryz.ntmps75
      go_wp2_with fail
      refine (LC.out).mono ?_
      rintro e w1 ⟨rfl, b1⟩
      have h2 := h.below b1
      obtain ⟨t0, t1⟩ := h2.two
      obtain ⟨bb, o, A, n, c, hA, hbB, hr, hc⟩ := h2.entry hk
      rw [HE.out] at hc hr
      injection hA with hA
      subst hA
      have V := EValue_any e0 A n c w1 (hb.below (b1.mono hB)) (Nat.le_trans hB b1.size)
      unfold enV at V
      have c0 := hc 0 _ rfl
      have c1 := hc 1 _ rfl
      have c2 := hc 2 _ rfl
      have c3 := hc 3 _ rfl
      have c4 := hc 4 _ rfl
      have c5 := hc 5 _ rfl
      have c6 := hc 6 _ rfl
      have c7 := hc 7 _ rfl
      have c8 := hc 8 _ rfl
      have c9 := hc 9 _ rfl
      have c10 := hc 10 _ rfl
      simp only [Nat.add_zero] at c0
      replace V := Lib.hid V
      have HC := Lib.hid hcap
      clear hr hc hcap h2
      generalize D.l.length = m at *
      go_wp2_with fail
      refine (V.out).mono ?_
      rintro e w2 ⟨rfl, b2⟩
      go_wp2_with fail
      go_ret2
      exact ⟨rfl, below_step b1 b2 (Nat.le_refl _)⟩
    | false =>
      by_cases hw : Ent.writS e0 = 0
      · rw [if_neg (by rw [hw]; simp)]
        go_enter Tryz.func75, Tryz.ntmps75
        go_wp2_with fail
        refine (LC.out).mono ?_
        rintro e w1 ⟨rfl, b1⟩
        have h2 := h.below b1
        obtain ⟨t0, t1⟩ := h2.two
        obtain ⟨bb, o, A, n, c, hA, hbB, hr, hc⟩ := h2.entry hk
        rw [HE.out] at hc hr
        injection hA with hA
        subst hA
        have V := fun (w2 : World) (b2 : Below w1.heap.size w1 w2) => EValue_any e0 A n c w2 ((hb.below (b1.mono hB)).below (b2.mono (Nat.le_trans hB b1.size))) (Nat.le_trans hB (Nat.le_trans b1.size b2.size))
        have WR := fun w => Writable_any e0 A n c w
        rw [hw] at WR
        unfold enV at V WR
        have hold := fun (w2 : World) (b2 : Below w1.heap.size w1 w2) => b2
        have c0 := hc 0 _ rfl
        have c1 := hc 1 _ rfl
        have c2 := hc 2 _ rfl
        have c3 := hc 3 _ rfl
        have c4 := hc 4 _ rfl
        have c5 := hc 5 _ rfl
        have c6 := hc 6 _ rfl
        have c7 := hc 7 _ rfl
        have c8 := hc 8 _ rfl
        have c9 := hc 9 _ rfl
        have c10 := hc 10 _ rfl
        simp only [Nat.add_zero] at c0
        replace V := Lib.hid V; replace WR := Lib.hid WR
        have HC := Lib.hid hcap
        have hbb := hbB
        have hg1 := h2.blk.lt
        clear hr hc hcap h2 hw hold
        generalize D.l.length = m at *
        go_wp2_with fail
        refine (WR.out _).mono ?_
        rintro e w2 ⟨rfl, b2⟩
        obtain ⟨k1, k2⟩ := bcell b2
        go_wp2_with fail
        refine (V.out _ b2).mono ?_
        rintro e w3 ⟨rfl, b3⟩
        go_wp2_with fail
        go_ret2
        exact ⟨rfl, below_step (below_step b1 b2 (Nat.le_refl _)) b3 (Nat.le_refl _)⟩
      · rw [if_pos ⟨rfl, hw⟩]
        have WR := fun (A : Option Addr) (n c : Nat) w => Writable_any e0 A n c w
        unfold enV at WR
        generalize hwv : Ent.writS e0 = wv at *
        have e0' : (wv == 0) = false := beq_false_of_ne hw
        replace WR := Lib.hid WR
        go_enter Tryz.func75, Tryz.ntmps75
        go_wp2_with fail
        refine (LC.out).mono ?_
        rintro e w1 ⟨rfl, b1⟩
        have h2 := h.below b1
        obtain ⟨t0, t1⟩ := h2.two
        obtain ⟨bb, o, A, n, c, hA, hbB, hr, hc⟩ := h2.entry hk
        rw [HE.out] at hc hr
        injection hA with hA
        subst hA
        have c0 := hc 0 _ rfl
        have c1 := hc 1 _ rfl
        have c2 := hc 2 _ rfl
        have c3 := hc 3 _ rfl
        have c4 := hc 4 _ rfl
        have c5 := hc 5 _ rfl
        have c6 := hc 6 _ rfl
        have c7 := hc 7 _ rfl
        have c8 := hc 8 _ rfl
        have c9 := hc 9 _ rfl
        have c10 := hc 10 _ rfl
        simp only [Nat.add_zero] at c0
        have HC := Lib.hid hcap
        clear hr hc hcap h2 hw hwv
        generalize D.l.length = m at *
        go_wp2_with fail
        refine (WR.out _ _ _ _).mono ?_
        rintro e w2 ⟨rfl, b2⟩
        go_wp2_with fail
        go_ret2
        exact ⟨rfl, below_step b1 b2 (Nat.le_refl _)⟩
set_option maxRecDepth 100000 in
set_option maxHeartbeats 4000000 in
theorem dMay_any {F : Nat → Prop} {w : World} {g gv lc vc : Nat} {la : Addr} {vA : Option Addr} {xs vs : List Value} {D : Dc.Dic} (x y : Int) {A' : Option Addr} {n' c' B : Nat} {b : List UInt8} (h : DRt 66 w F g gv (some la) lc vA vc xs vs D) (hb : RB w B A' n' c' b) (hB : B ≤ w.heap.size) : Calls Tryz.prog 104 #[.pointer (some ⟨g, 0, none⟩), .int .i64 x, .int .i64 y, .slice A' n' c'] w fun e w' => e = .returned (.int .u32 (Dc.mayS D.l false x y b)) ∧ Below w.heap.size w w' := by
  have M := Lib.hid (dmay_any false x y h hb hB)
  rw [← mayP_snd]
  clear h hb
  go_enter Tryz.func104, Tryz.ntmps104
  go_wp2_with fail
  refine (M.out).mono ?_
  rintro e w1 ⟨rfl, b1⟩
  go_wp2_with fail
  go_ret
  exact ⟨rfl, b1⟩
end Go.Proofs.YtbmocffnnlfnjaaGreat
/-
  Walks: Split, Join, Size of layer 30, and of its reference.
  Conditions: none.
-/
namespace Go.Proofs.YtbmocffnnlfnjaaGreat
set_option linter.unusedVariables false
set_option linter.unusedSimpArgs false
open Go.RowKit
theorem and255 (n : Nat) (hn : n < 4294967296) {z : Int} (hz : z = (n : Int)) : bits .and .u32 z 255 = ((n % 256 : Nat) : Int) := by
  subst hz
  have := u32_and_nat n 255 hn (by decide)
  rw [show n &&& 255 = n % 256 from Nat.and_two_pow_sub_one_eq_mod n 8] at this
  exact this
theorem or_words (x y z : Nat) (hx : x ≤ 65535) (hy : y ≤ 255) (hz : z ≤ 255) : bits .or .u32 (bits .or .u32 ((x : Int) * 65536) ((y : Int) * 256)) (z : Int) = 65536 * (x : Int) + 256 * (y : Int) + (z : Int) := by
  have e1 : bits .or .u32 ((x : Int) * 65536) ((y : Int) * 256) = ((65536 * x + 256 * y : Nat) : Int) := by
    have := u32_or_nat (2 ^ 16 * x) (256 * y) (by omega) (by omega)
    rw [← Nat.two_pow_add_eq_or_of_lt (by omega : 256 * y < 2 ^ 16)] at this
    rw [show (x : Int) * 65536 = ((2 ^ 16 * x : Nat) : Int) by omega, show (y : Int) * 256 = ((256 * y : Nat) : Int) by omega, this]
  have e2 := u32_or_nat (2 ^ 8 * (256 * x + y)) z (by omega) (by omega)
  rw [← Nat.two_pow_add_eq_or_of_lt (by omega : z < 2 ^ 8)] at e2
  rw [e1, show ((65536 * x + 256 * y : Nat) : Int) = ((2 ^ 8 * (256 * x + y) : Nat) : Int) by omega, e2]
  omega
theorem MSplit_any (v : Nat) (hv : v < 4294967296) (w : World) : Calls Tryz.prog 51 #[.int .u32 (v : Int)] w fun e w' => e = .returned (.tuple #[.int .i64 (Mp.ix v : Int), .int .i64 (Mp.sb v : Int), .int .i64 (Mp.bt v : Int)]) ∧ w = w' := by
  have e1 : bits .and .u32 ((v : Int) / 256) 255 = ((v / 256 % 256 : Nat) : Int) := and255 (v / 256) (by omega) (by omega)
  have e2 : bits .and .u32 (v : Int) 255 = ((v % 256 : Nat) : Int) := and255 v hv rfl
  have e3 : wrap64 ((v / 256 % 256 : Nat) : Int) = ((v / 256 % 256 : Nat) : Int) := by unfold wrap64; omega
  have e4 : wrap64 ((v % 256 : Nat) : Int) = ((v % 256 : Nat) : Int) := by unfold wrap64; omega
  go_enter Tryz.func51, Tryz.ntmps51
  go_wp2_with fail
  go_ret3
  exact ⟨by simp only [Mp.ix, Mp.sb, Mp.bt]; rfl, rfl⟩
theorem RMSplit_any (v : Nat) (hv : v < 4294967296) (w : World) : Calls Tryz.prog 52 #[.int .u32 (v : Int)] w fun e w' => e = .returned (.tuple #[.int .i64 (Mp.ix v : Int), .int .i64 (Mp.sb v : Int), .int .i64 (Mp.bt v : Int)]) ∧ w = w' := by
  go_enter Tryz.func52, Tryz.ntmps52
  go_wp2_with fail
  go_ret3
  exact ⟨by simp only [Mp.ix, Mp.sb, Mp.bt]; rfl, rfl⟩
/-- Words that are read. -/
def RW (w : World) (B : Nat) (A : Option Addr) (n c : Nat) (ws : List Nat) : Prop := RV w B 1 A n c (ws.map fun (x : Nat) => Value.int .u32 (x : Int))
section
variable {w w' : World} {B B' n c : Nat} {A : Option Addr} {ws : List Nat}
theorem RW.len (h : RW w B A n c ws) : ws.length = n := by have := RV.len h; simpa using this
theorem RW.lt (h : RW w B A n c ws) : n ≤ 9223372036854775807 := Nat.le_trans (RV.le h) (RV.cap h)
theorem RW.below (h : RW w B A n c ws) (hb : Below B w w') : RW w' B A n c ws := RV.below h hb
theorem RW.more (h : RW w B A n c ws) (hB : B ≤ B') : RW w B' A n c ws := RV.more h hB
theorem RW.at_ (h : RW w B A n c ws) {i : Nat} (hi : i < n) : ∃ b o, A = some ⟨b, o, none⟩ ∧ b < B ∧ w.cell? ⟨b, o + i, none⟩ = some (.int .u32 ((ws.getD i 0 : Nat) : Int)) := by
  have hl := h.len
  obtain ⟨b, o, rfl, hb, hc⟩ := RV.at_ h (by omega)
  exact ⟨b, o, rfl, hb, hc i _ (by simp [List.getElem?_map, List.getD, show i < ws.length by omega])⟩
/-- 'x[:k]' -/
theorem RW.take (h : RW w B A n c ws) {k : Nat} (hk : k ≤ n) : RW w B A k c (ws.take k) :=
  ⟨by rw [List.length_map, List.length_take, h.len]; omega, Nat.le_trans hk (RV.le h), RV.cap h, fun e => ⟨by have := (RV.nil h e).1; omega, (RV.nil h e).2⟩, fun hn => by
    obtain ⟨b, o, rfl, hb, hc⟩ := RV.at_ h (by omega)
    refine ⟨b, o, rfl, hb, fun j u hu => hc j u ?_⟩
    rw [List.map_take, List.getElem?_take] at hu
    split at hu
    · exact hu
    · cases hu⟩
end
theorem size_step {ws : List Nat} {k : Nat} (h : k < ws.length) : Mp.sizeS (ws.take (k + 1)) = Mp.sizeS (ws.take k) + Mp.bt (ws.getD k 0) := by
  unfold Mp.sizeS
  rw [List.take_succ_eq_append_getElem h, List.map_append, List.sum_append, List.getD_eq_getElem?_getD, List.getElem?_eq_getElem h]
  simp
theorem size_le (ws : List Nat) : Mp.sizeS ws ≤ 255 * ws.length := by
  unfold Mp.sizeS
  induction ws with
  | nil => simp
  | cons a l ih =>
    simp only [List.map_cons, List.sum_cons, List.length_cons]
    have : Mp.bt a ≤ 255 := by unfold Mp.bt; omega
    omega
theorem word_lt {ws : List Nat} (h : ∀ x ∈ ws, x < 4294967296) (i : Nat) : ws.getD i 0 < 4294967296 := by
  rw [List.getD_eq_getElem?_getD]
  cases hi : ws[i]? with
  | none => simp
  | some x => exact h _ (List.mem_of_getElem? hi)
set_option maxRecDepth 100000 in
set_option maxHeartbeats 4000000 in
theorem MSize_any {A : Option Addr} {n c B : Nat} {ws : List Nat} (w : World) (h : RW w B A n c ws) (hn : n ≤ 1000000) (hw : ∀ x ∈ ws, x < 4294967296) : Calls Tryz.prog 67 #[.slice A n c] w fun e w' => e = .returned (.int .i64 (Mp.sizeS ws : Int)) ∧ w = w' := by
  have hl := h.len
  go_enter Tryz.func67, Tryz.ntmps67
  go_wp2_with fail
  go_loop [3, 8] (fun v i => ∃ k : Nat, k ≤ n ∧ i = .int .i64 k ∧ v = .int .i64 (Mp.sizeS (ws.take k) : Int)) (fun _ i => n - (intOf i).toNat)
  case atStart => exact ⟨0, by omega, rfl, rfl⟩
  case round =>
    obtain ⟨k, hk, rfl, rfl⟩ := hrel
    by_cases hlt : k < n
    · obtain ⟨b, o, rfl, hbB, q0⟩ := h.at_ hlt
      have hst := size_step (ws := ws) (k := k) (by omega)
      have hsz := size_le (ws.take k)
      have hwv := word_lt hw k
      have hlk : (ws.take k).length = k := by rw [List.length_take]; omega
      rw [hlk] at hsz
      unfold Mp.bt at hst
      have e2 : bits .and .u32 ((ws.getD k 0 : Nat) : Int) 255 = ((ws.getD k 0 % 256 : Nat) : Int) := and255 _ hwv rfl
      generalize ws.getD k 0 = x at *
      generalize Mp.sizeS (ws.take k) = cur at *
      have HST := Lib.hid hst
      have hx : x % 256 < 256 := by omega
      generalize x % 256 = y at *
      clear hst hlk
      go_wp2_with fail
      go_round
      case rel => exact ⟨k + 1, by omega, by go_num, by rw [HST.out]; go_num⟩
      case measure => simp [intOf] <;> omega
    · obtain rfl : k = n := by omega
      go_wp2_with fail
      go_ret
      exact ⟨by rw [List.take_of_length_le (by omega)]; rfl, rfl⟩
set_option maxRecDepth 100000 in
set_option maxHeartbeats 4000000 in
theorem RMSize_any {A : Option Addr} {n c B : Nat} {ws : List Nat} (w : World) (h : RW w B A n c ws) (hn : n ≤ 1000000) (hw : ∀ x ∈ ws, x < 4294967296) : Calls Tryz.prog 72 #[.slice A n c] w fun e w' => e = .returned (.int .i64 (Mp.sizeS ws : Int)) ∧ w = w' := by
  have hl := h.len
  go_enter Tryz.func72, Tryz.ntmps72
  go_wp2_with fail
  go_loop [3, 4] (fun v i => ∃ k : Nat, k ≤ n ∧ i = .int .i64 k ∧ v = .int .i64 (Mp.sizeS (ws.take k) : Int)) (fun _ i => n - (intOf i).toNat)
  case atStart => exact ⟨0, by omega, rfl, rfl⟩
  case round =>
    obtain ⟨k, hk, rfl, rfl⟩ := hrel
    by_cases hlt : k < n
    · obtain ⟨b, o, rfl, hbB, q0⟩ := h.at_ hlt
      have hst := size_step (ws := ws) (k := k) (by omega)
      have hsz := size_le (ws.take k)
      have S := fun w => RMSplit_any (ws.getD k 0) (word_lt hw k) w
      have hlk : (ws.take k).length = k := by rw [List.length_take]; omega
      rw [hlk] at hsz
      have hx : Mp.bt (ws.getD k 0) < 256 := by unfold Mp.bt; omega
      generalize ws.getD k 0 = x at *
      generalize Mp.sizeS (ws.take k) = cur at *
      generalize Mp.bt x = y at *
      have HST := Lib.hid hst
      replace S := Lib.hid S
      clear hst hlk
      go_wp2_with fail
      refine (S.out _).mono ?_
      rintro e w ⟨rfl, rfl⟩
      go_wp2_with fail
      go_round
      case rel => exact ⟨k + 1, by omega, by go_num, by rw [HST.out]; go_num⟩
      case measure => simp [intOf] <;> omega
    · obtain rfl : k = n := by omega
      go_wp2_with fail
      go_ret
      exact ⟨by rw [List.take_of_length_le (by omega)]; rfl, rfl⟩
end Go.Proofs.YtbmocffnnlfnjaaGreat
/-
  Walks: Entry of layer 15; find of layer 30.
  Conditions: none.
-/
namespace Go.Proofs.YtbmocffnnlfnjaaGreat
set_option linter.unusedVariables false
set_option linter.unusedSimpArgs false
open Go.RowKit
set_option maxRecDepth 100000 in
set_option maxHeartbeats 4000000 in
theorem dEntry_any {F : Nat → Prop} {w : World} {g gv lc vc : Nat} {la : Addr} {vA : Option Addr} {xs vs : List Value} {D : Dc.Dic} (k : Nat) (h : DRt 66 w F g gv (some la) lc vA vc xs vs D) (hk : k < D.l.length) (hd : ∀ e ∈ D.l, e.dflt.length ≤ 1000000) : Calls Tryz.prog 105 #[.pointer (some ⟨g, 0, none⟩), .int .i64 (k : Int)] w fun e w' => ∃ A1 n1 c1, e = .returned (.tuple #[enV (D.l.getD k Dc.en0) A1 n1 c1, .bool true]) ∧ OB w' w.heap.size A1 n1 c1 (D.l.getD k Dc.en0).dflt ∧ Below w.heap.size w w' := by
  obtain ⟨b, oo, A, n, c, hA, hbB, hr, hc⟩ := h.entry hk
  have hmem : D.l.getD k Dc.en0 ∈ D.l := by
    rw [List.getD_eq_getElem?_getD, List.getElem?_eq_getElem hk]
    exact List.getElem_mem hk
  have hdl := hd _ hmem
  clear hmem
  have hn := hr.len
  generalize he : D.l.getD k Dc.en0 = e0 at *
  have HE := Lib.hid he
  clear he
  obtain ⟨ix, sb, nm, ty, ac, mp, st, mx, lo, hi, df⟩ := e0
  unfold enV
  dsimp only at hr hdl hn ⊢
  injection hA with hA
  subst hA
  have b0 := alloc_one w (.cells #[.int .i64 0, .int .i64 0, .string ⟨#[]⟩, .int .i64 0, .int .i64 0, .bool false, .bool false, .int .i64 0, .int .i64 0, .int .i64 0, .slice none 0 0] 63)
  have LN := Lib.hid (dLen_any (h.below b0))
  have h2 := h.below b0
  obtain ⟨t0, t1⟩ := h2.two
  have hlc := h.lcap
  have HLC := Lib.hid hlc
  have c0 := (b0.cell (p := ⟨b, oo + k * 11 + 0, none⟩) hbB).trans (hc 0 _ rfl)
  have c1 := (b0.cell (p := ⟨b, oo + k * 11 + 1, none⟩) hbB).trans (hc 1 _ rfl)
  have c2 := (b0.cell (p := ⟨b, oo + k * 11 + 2, none⟩) hbB).trans (hc 2 _ rfl)
  have c3 := (b0.cell (p := ⟨b, oo + k * 11 + 3, none⟩) hbB).trans (hc 3 _ rfl)
  have c4 := (b0.cell (p := ⟨b, oo + k * 11 + 4, none⟩) hbB).trans (hc 4 _ rfl)
  have c5 := (b0.cell (p := ⟨b, oo + k * 11 + 5, none⟩) hbB).trans (hc 5 _ rfl)
  have c6 := (b0.cell (p := ⟨b, oo + k * 11 + 6, none⟩) hbB).trans (hc 6 _ rfl)
  have c7 := (b0.cell (p := ⟨b, oo + k * 11 + 7, none⟩) hbB).trans (hc 7 _ rfl)
  have c8 := (b0.cell (p := ⟨b, oo + k * 11 + 8, none⟩) hbB).trans (hc 8 _ rfl)
  have c9 := (b0.cell (p := ⟨b, oo + k * 11 + 9, none⟩) hbB).trans (hc 9 _ rfl)
  have c10 := (b0.cell (p := ⟨b, oo + k * 11 + 10, none⟩) hbB).trans (hc 10 _ rfl)
  simp only [Nat.add_zero] at c0
  dsimp only at c0 c1 c2 c3 c4 c5 c6 c7 c8 c9 c10
  have HD := held_any ⟨ix, sb, nm, ty, ac, mp, st, mx, lo, hi, df⟩ (w.alloc (.cells #[.int .i64 0, .int .i64 0, .string ⟨#[]⟩, .int .i64 0, .int .i64 0, .bool false, .bool false, .int .i64 0, .int .i64 0, .int .i64 0, .slice none 0 0] 63)) (hr.below b0) (by omega) b0.size
  unfold enV at HD
  dsimp only at HD
  replace HD := Lib.hid HD
  have K2 := Blk.new w 63 #[.int .i64 0, .int .i64 0, .string ⟨#[]⟩, .int .i64 0, .int .i64 0, .bool false, .bool false, .int .i64 0, .int .i64 0, .int .i64 0, .slice none 0 0]
  clear hc hr h h2 hlc
  generalize D.l.length = m at *
  go_enter Tryz.func105, Tryz.ntmps105
  go_wp2_with fail
  refine (LN.out).mono ?_
  rintro e w1 ⟨rfl, rfl⟩
  go_wp2_with fail
  refine (HD.out).mono ?_
  rintro e w1 ⟨A1, c1', rfl, o1, b1⟩
  replace K2 := K2.later b1
  have E2 := K2.eleven
  have d1 := below_step b0 b1 (Nat.le_refl _)
  simp only [World.size_alloc] at o1
  go_wp2_with fail
  have R := (K2.store11 (.int .i64 ix) (.int .i64 sb) (.string (T nm)) (.int .i64 ty) (.int .i64 ac) (.bool mp) (.bool st) (.int .i64 mx) (.int .i64 lo) (.int .i64 hi) (.slice A1 n c1')).eleven.1
  have d2 := below_set11 (g := w.heap.size) d1 (Nat.le_refl _) (.int .i64 ix) (.int .i64 sb) (.string (T nm)) (.int .i64 ty) (.int .i64 ac) (.bool mp) (.bool st) (.int .i64 mx) (.int .i64 lo) (.int .i64 hi) (.slice A1 n c1')
  have o2 := (o1.far11 (g := w.heap.size) (by omega) (.int .i64 ix) (.int .i64 sb) (.string (T nm)) (.int .i64 ty) (.int .i64 ac) (.bool mp) (.bool st) (.int .i64 mx) (.int .i64 lo) (.int .i64 hi) (.slice A1 n c1')).more (base' := w.heap.size) (by omega)
  exact bodyPost_ret (v := .tuple #[.agg #[.int .i64 ix, .int .i64 sb, .string (T nm), .int .i64 ty, .int .i64 ac, .bool mp, .bool st, .int .i64 mx, .int .i64 lo, .int .i64 hi, .slice A1 n c1'], .bool true]) (by simp [results, Tryz.results105, go_sem, R]) rfl ⟨A1, n, c1', rfl, o2, d2⟩
end Go.Proofs.YtbmocffnnlfnjaaGreat
/-
  A block of twelve cells that is known whole: an object of a mapping.
  Conditions: none.
-/
namespace Go.Proofs.YtbmocffnnlfnjaaGreat
set_option linter.unusedVariables false
set_option linter.unusedSimpArgs false
open Go.RowKit
theorem Blk.twelve {w : World} {g : Nat} {t : TypeId} {x0 x1 x2 x3 x4 x5 x6 x7 x8 x9 x10 x11 : Value} (h : Blk w g t #[x0, x1, x2, x3, x4, x5, x6, x7, x8, x9, x10, x11]) : (w.cell? ⟨g, 0, none⟩ = some x0 ∧ w.cell? ⟨g, 1, none⟩ = some x1 ∧ w.cell? ⟨g, 2, none⟩ = some x2 ∧ w.cell? ⟨g, 3, none⟩ = some x3 ∧ w.cell? ⟨g, 4, none⟩ = some x4 ∧ w.cell? ⟨g, 5, none⟩ = some x5 ∧ w.cell? ⟨g, 6, none⟩ = some x6 ∧ w.cell? ⟨g, 7, none⟩ = some x7 ∧ w.cell? ⟨g, 8, none⟩ = some x8 ∧ w.cell? ⟨g, 9, none⟩ = some x9 ∧ w.cell? ⟨g, 10, none⟩ = some x10 ∧ w.cell? ⟨g, 11, none⟩ = some x11) ∧ (w.frozen? ⟨g, 0, none⟩ = false ∧ w.frozen? ⟨g, 1, none⟩ = false ∧ w.frozen? ⟨g, 2, none⟩ = false ∧ w.frozen? ⟨g, 3, none⟩ = false ∧ w.frozen? ⟨g, 4, none⟩ = false ∧ w.frozen? ⟨g, 5, none⟩ = false ∧ w.frozen? ⟨g, 6, none⟩ = false ∧ w.frozen? ⟨g, 7, none⟩ = false ∧ w.frozen? ⟨g, 8, none⟩ = false ∧ w.frozen? ⟨g, 9, none⟩ = false ∧ w.frozen? ⟨g, 10, none⟩ = false ∧ w.frozen? ⟨g, 11, none⟩ = false) := ⟨⟨h.cell 0, h.cell 1, h.cell 2, h.cell 3, h.cell 4, h.cell 5, h.cell 6, h.cell 7, h.cell 8, h.cell 9, h.cell 10, h.cell 11⟩, h.frozen 0, h.frozen 1, h.frozen 2, h.frozen 3, h.frozen 4, h.frozen 5, h.frozen 6, h.frozen 7, h.frozen 8, h.frozen 9, h.frozen 10, h.frozen 11⟩
theorem Blk.store12 {w : World} {g : Nat} {t : TypeId} {x0 x1 x2 x3 x4 x5 x6 x7 x8 x9 x10 x11 : Value} (h : Blk w g t #[x0, x1, x2, x3, x4, x5, x6, x7, x8, x9, x10, x11]) (y0 y1 y2 y3 y4 y5 y6 y7 y8 y9 y10 y11 : Value) : Blk (World.setCell (World.setCell (World.setCell (World.setCell (World.setCell (World.setCell (World.setCell (World.setCell (World.setCell (World.setCell (World.setCell (World.setCell w ⟨g, 0, none⟩ y0) ⟨g, 1, none⟩ y1) ⟨g, 2, none⟩ y2) ⟨g, 3, none⟩ y3) ⟨g, 4, none⟩ y4) ⟨g, 5, none⟩ y5) ⟨g, 6, none⟩ y6) ⟨g, 7, none⟩ y7) ⟨g, 8, none⟩ y8) ⟨g, 9, none⟩ y9) ⟨g, 10, none⟩ y10) ⟨g, 11, none⟩ y11) g t #[y0, y1, y2, y3, y4, y5, y6, y7, y8, y9, y10, y11] := by
  have h0 : Blk _ g t #[y0, x1, x2, x3, x4, x5, x6, x7, x8, x9, x10, x11] := h.set_ 0 y0
  have h1 : Blk _ g t #[y0, y1, x2, x3, x4, x5, x6, x7, x8, x9, x10, x11] := h0.set_ 1 y1
  have h2 : Blk _ g t #[y0, y1, y2, x3, x4, x5, x6, x7, x8, x9, x10, x11] := h1.set_ 2 y2
  have h3 : Blk _ g t #[y0, y1, y2, y3, x4, x5, x6, x7, x8, x9, x10, x11] := h2.set_ 3 y3
  have h4 : Blk _ g t #[y0, y1, y2, y3, y4, x5, x6, x7, x8, x9, x10, x11] := h3.set_ 4 y4
  have h5 : Blk _ g t #[y0, y1, y2, y3, y4, y5, x6, x7, x8, x9, x10, x11] := h4.set_ 5 y5
  have h6 : Blk _ g t #[y0, y1, y2, y3, y4, y5, y6, x7, x8, x9, x10, x11] := h5.set_ 6 y6
  have h7 : Blk _ g t #[y0, y1, y2, y3, y4, y5, y6, y7, x8, x9, x10, x11] := h6.set_ 7 y7
  have h8 : Blk _ g t #[y0, y1, y2, y3, y4, y5, y6, y7, y8, x9, x10, x11] := h7.set_ 8 y8
  have h9 : Blk _ g t #[y0, y1, y2, y3, y4, y5, y6, y7, y8, y9, x10, x11] := h8.set_ 9 y9
  have h10 : Blk _ g t #[y0, y1, y2, y3, y4, y5, y6, y7, y8, y9, y10, x11] := h9.set_ 10 y10
  have h11 : Blk _ g t #[y0, y1, y2, y3, y4, y5, y6, y7, y8, y9, y10, y11] := h10.set_ 11 y11
  exact h11
theorem below_set12 {B : Nat} {a w : World} {g : Nat} (h : Below B a w) (hg : B ≤ g) (y0 y1 y2 y3 y4 y5 y6 y7 y8 y9 y10 y11 : Value) : Below B a (World.setCell (World.setCell (World.setCell (World.setCell (World.setCell (World.setCell (World.setCell (World.setCell (World.setCell (World.setCell (World.setCell (World.setCell w ⟨g, 0, none⟩ y0) ⟨g, 1, none⟩ y1) ⟨g, 2, none⟩ y2) ⟨g, 3, none⟩ y3) ⟨g, 4, none⟩ y4) ⟨g, 5, none⟩ y5) ⟨g, 6, none⟩ y6) ⟨g, 7, none⟩ y7) ⟨g, 8, none⟩ y8) ⟨g, 9, none⟩ y9) ⟨g, 10, none⟩ y10) ⟨g, 11, none⟩ y11) := ((((((((((((h.setCell (p := ⟨g, 0, none⟩) hg y0).setCell (p := ⟨g, 1, none⟩) hg y1).setCell (p := ⟨g, 2, none⟩) hg y2).setCell (p := ⟨g, 3, none⟩) hg y3).setCell (p := ⟨g, 4, none⟩) hg y4).setCell (p := ⟨g, 5, none⟩) hg y5).setCell (p := ⟨g, 6, none⟩) hg y6).setCell (p := ⟨g, 7, none⟩) hg y7).setCell (p := ⟨g, 8, none⟩) hg y8).setCell (p := ⟨g, 9, none⟩) hg y9).setCell (p := ⟨g, 10, none⟩) hg y10).setCell (p := ⟨g, 11, none⟩) hg y11)
theorem OB.far12 {w : World} {base g n c : Nat} {A : Option Addr} {l : List UInt8} (h : OB w base A n c l) (hg : g < base) (y0 y1 y2 y3 y4 y5 y6 y7 y8 y9 y10 y11 : Value) : OB (World.setCell (World.setCell (World.setCell (World.setCell (World.setCell (World.setCell (World.setCell (World.setCell (World.setCell (World.setCell (World.setCell (World.setCell w ⟨g, 0, none⟩ y0) ⟨g, 1, none⟩ y1) ⟨g, 2, none⟩ y2) ⟨g, 3, none⟩ y3) ⟨g, 4, none⟩ y4) ⟨g, 5, none⟩ y5) ⟨g, 6, none⟩ y6) ⟨g, 7, none⟩ y7) ⟨g, 8, none⟩ y8) ⟨g, 9, none⟩ y9) ⟨g, 10, none⟩ y10) ⟨g, 11, none⟩ y11) base A n c l := ((((((((((((h.far hg 0 y0).far hg 1 y1).far hg 2 y2).far hg 3 y3).far hg 4 y4).far hg 5 y5).far hg 6 y6).far hg 7 y7).far hg 8 y8).far hg 9 y9).far hg 10 y10).far hg 11 y11)
end Go.Proofs.YtbmocffnnlfnjaaGreat
/-
  Walks: find of layer 30.
  Conditions: none.
-/
namespace Go.Proofs.YtbmocffnnlfnjaaGreat
set_option linter.unusedVariables false
set_option linter.unusedSimpArgs false
open Go.RowKit
/-- What a word names, or why there is none. -/
def FindP (D : Dc.Dic) (v : Nat) (w : World) (e : Ending) (w' : World) : Prop := match Dc.findS D.l (Mp.ix v) (Mp.sb v) with
  | none => e = .returned (.tuple #[.agg #[.int .i64 0, .int .i64 0, .string ⟨#[]⟩, .int .i64 0, .int .i64 0, .bool false, .bool false, .int .i64 0, .int .i64 0, .int .i64 0, .slice none 0 0, .int .i64 0], .int .u32 (if Dc.inB D.l (Mp.ix v) = true then 101253137 else 100794368)]) ∧ Below w.heap.size w w'
  | some k => ∃ A n c, e = .returned (.tuple #[.agg #[.int .i64 (D.l.getD k Dc.en0).index, .int .i64 (D.l.getD k Dc.en0).sub, .string (T (D.l.getD k Dc.en0).name), .int .i64 (D.l.getD k Dc.en0).type, .int .i64 (D.l.getD k Dc.en0).access, .bool (D.l.getD k Dc.en0).map, .bool (D.l.getD k Dc.en0).store, .int .i64 (D.l.getD k Dc.en0).max, .int .i64 (D.l.getD k Dc.en0).low, .int .i64 (D.l.getD k Dc.en0).high, .slice A n c, .int .i64 (Mp.bt v : Int)], .int .u32 0]) ∧ OB w' w.heap.size A n c (D.l.getD k Dc.en0).dflt ∧ Below w.heap.size w w'
theorem find_no {D : Dc.Dic} {v : Nat} {w w' : World} {code : Int} (hf : Dc.findS D.l (Mp.ix v) (Mp.sb v) = none) (hc : (if Dc.inB D.l (Mp.ix v) = true then (101253137 : Int) else 100794368) = code) (hb : Below w.heap.size w w') :
    FindP D v w (.returned (.tuple #[.agg #[.int .i64 0, .int .i64 0, .string ⟨#[]⟩, .int .i64 0, .int .i64 0, .bool false, .bool false, .int .i64 0, .int .i64 0, .int .i64 0, .slice none 0 0, .int .i64 0], .int .u32 code])) w' := by
  subst hc
  unfold FindP
  rw [hf]
  exact ⟨rfl, hb⟩
theorem find_yes {D : Dc.Dic} {v k : Nat} {w w' : World} {ix sb ty ac mx lo hi : Int} {nm df : List UInt8} {mp st : Bool} {A : Option Addr} {n c : Nat} (hf : Dc.findS D.l (Mp.ix v) (Mp.sb v) = some k) (he : D.l.getD k Dc.en0 = ⟨ix, sb, nm, ty, ac, mp, st, mx, lo, hi, df⟩) (ho : OB w' w.heap.size A n c df) (hb : Below w.heap.size w w') :
    FindP D v w (.returned (.tuple #[.agg #[.int .i64 ix, .int .i64 sb, .string (T nm), .int .i64 ty, .int .i64 ac, .bool mp, .bool st, .int .i64 mx, .int .i64 lo, .int .i64 hi, .slice A n c, .int .i64 (Mp.bt v : Int)], .int .u32 0])) w' := by
  unfold FindP
  rw [hf]
  dsimp only
  rw [he]
  exact ⟨A, n, c, rfl, ho, hb⟩
set_option maxRecDepth 100000 in
set_option maxHeartbeats 4000000 in
theorem find_any {F : Nat → Prop} {w : World} {g gv lc vc : Nat} {la : Addr} {vA : Option Addr} {xs vs : List Value} {D : Dc.Dic} (v : Nat) (hv : v < 4294967296) (h : DRt 66 w F g gv (some la) lc vA vc xs vs D) (hd : ∀ e ∈ D.l, e.dflt.length ≤ 1000000) : Calls Tryz.prog 87 #[.pointer (some ⟨g, 0, none⟩), .int .u32 (v : Int)] w (FindP D v w) := by
  have SP := Lib.hid (fun w => MSplit_any v hv w)
  have b0 := alloc_one w (.cells #[.int .i64 0, .int .i64 0, .string ⟨#[]⟩, .int .i64 0, .int .i64 0, .bool false, .bool false, .int .i64 0, .int .i64 0, .int .i64 0, .slice none 0 0, .int .i64 0] 121)
  have K0 := Blk.new w 121 #[.int .i64 0, .int .i64 0, .string ⟨#[]⟩, .int .i64 0, .int .i64 0, .bool false, .bool false, .int .i64 0, .int .i64 0, .int .i64 0, .slice none 0 0, .int .i64 0]
  have FD := dFind_any (Mp.ix v : Int) (Mp.sb v : Int) (h.below b0)
  cases hf : Dc.findS D.l (Mp.ix v) (Mp.sb v) with
  | none =>
    rw [findP_none hf] at FD
    dsimp only at FD
    replace FD := Lib.hid FD
    have hm : Dc.mayS D.l false (Mp.ix v) (Mp.sb v) [] = if Dc.inB D.l (Mp.ix v) = true then 101253137 else 100794368 := by unfold Dc.mayS; rw [hf]
    have MY := fun (w1 : World) (hb : Below w.heap.size w w1) => dMay_any (Mp.ix v : Int) (Mp.sb v : Int) (h.below hb) (RB.none_ (w := w1) (B := 0)) (Nat.zero_le _)
    rw [hm] at MY
    generalize hcd : (if Dc.inB D.l (Mp.ix v) = true then (101253137 : Int) else 100794368) = code at *
    have HCD := Lib.hid hcd; have HF := Lib.hid hf
    replace MY := Lib.hid MY
    clear hm hcd hf
    go_enter Tryz.func87, Tryz.ntmps87
    go_wp2_with fail
    refine (SP.out _).mono ?_
    rintro e w1 ⟨rfl, rfl⟩
    go_wp2_with fail
    refine (FD.out).mono ?_
    rintro e w1 ⟨rfl, b1⟩
    have d1 := below_step b0 b1 (Nat.le_refl _)
    go_wp2_with fail
    refine (MY.out _ d1).mono ?_
    rintro e w2 ⟨rfl, b2⟩
    have K2 := (K0.later b1).later b2
    have d2 := below_step d1 b2 (Nat.le_refl _)
    have E2 := K2.twelve
    go_wp2_with fail
    have R := (K2.store12 (.int .i64 0) (.int .i64 0) (.string ⟨#[]⟩) (.int .i64 0) (.int .i64 0) (.bool false) (.bool false) (.int .i64 0) (.int .i64 0) (.int .i64 0) (.slice none 0 0) (.int .i64 0)).twelve.1
    have d3 := below_set12 (g := w.heap.size) d2 (Nat.le_refl _) (.int .i64 0) (.int .i64 0) (.string ⟨#[]⟩) (.int .i64 0) (.int .i64 0) (.bool false) (.bool false) (.int .i64 0) (.int .i64 0) (.int .i64 0) (.slice none 0 0) (.int .i64 0)
    exact bodyPost_ret (v := .tuple #[.agg #[.int .i64 0, .int .i64 0, .string ⟨#[]⟩, .int .i64 0, .int .i64 0, .bool false, .bool false, .int .i64 0, .int .i64 0, .int .i64 0, .slice none 0 0, .int .i64 0], .int .u32 code]) (by simp [results, Tryz.results87, go_sem, R]) rfl (find_no HF.out HCD.out d3)
  | some k =>
    rw [findP_some hf] at FD
    dsimp only at FD
    have hk := (Dc.find_some hf).2.1
    have HF := Lib.hid hf
    have EN := fun (w1 : World) (hb : Below w.heap.size w w1) => dEntry_any k (h.below hb) hk hd
    generalize he : D.l.getD k Dc.en0 = e0 at *
    have HE := Lib.hid he
    obtain ⟨ix, sb, nm, ty, ac, mp, st, mx, lo, hi, df⟩ := e0
    unfold enV at EN
    dsimp only at EN
    replace FD := Lib.hid FD; replace EN := Lib.hid EN
    clear he hf
    go_enter Tryz.func87, Tryz.ntmps87
    go_wp2_with fail
    refine (SP.out _).mono ?_
    rintro e w1 ⟨rfl, rfl⟩
    go_wp2_with fail
    refine (FD.out).mono ?_
    rintro e w1 ⟨rfl, b1⟩
    have d1 := below_step b0 b1 (Nat.le_refl _)
    go_wp2_with fail
    refine (EN.out _ d1).mono ?_
    rintro e w2 ⟨A1, n1, c1, rfl, o2, b2⟩
    have d2 := below_step d1 b2 (Nat.le_refl _)
    have b3 := alloc_one w2 (.cells #[.int .i64 ix, .int .i64 sb, .string (T nm), .int .i64 ty, .int .i64 ac, .bool mp, .bool st, .int .i64 mx, .int .i64 lo, .int .i64 hi, .slice A1 n1 c1] 63)
    have K3 := ((K0.later b1).later b2).later b3
    have d3 := below_step d2 b3 (Nat.le_refl _)
    have o3 := o2.below b3
    have E3 := K3.twelve
    have HS1 := Lib.hid (K0.later b1).lt
    clear b3 b2 b1 o2
    go_wp2_with fail
    have R := (K3.store12 (.int .i64 ix) (.int .i64 sb) (.string (T nm)) (.int .i64 ty) (.int .i64 ac) (.bool mp) (.bool st) (.int .i64 mx) (.int .i64 lo) (.int .i64 hi) (.slice A1 n1 c1) (.int .i64 (Mp.bt v : Int))).twelve.1
    have d4 := below_set12 (g := w.heap.size) d3 (Nat.le_refl _) (.int .i64 ix) (.int .i64 sb) (.string (T nm)) (.int .i64 ty) (.int .i64 ac) (.bool mp) (.bool st) (.int .i64 mx) (.int .i64 lo) (.int .i64 hi) (.slice A1 n1 c1) (.int .i64 (Mp.bt v : Int))
    have o4 := (o3.far12 (g := w.heap.size) HS1.out (.int .i64 ix) (.int .i64 sb) (.string (T nm)) (.int .i64 ty) (.int .i64 ac) (.bool mp) (.bool st) (.int .i64 mx) (.int .i64 lo) (.int .i64 hi) (.slice A1 n1 c1) (.int .i64 (Mp.bt v : Int))).more (base' := w.heap.size) (Nat.le_of_lt HS1.out)
    exact bodyPost_ret (v := .tuple #[.agg #[.int .i64 ix, .int .i64 sb, .string (T nm), .int .i64 ty, .int .i64 ac, .bool mp, .bool st, .int .i64 mx, .int .i64 lo, .int .i64 hi, .slice A1 n1 c1, .int .i64 (Mp.bt v : Int)], .int .u32 0]) (by simp [results, Tryz.results87, go_sem, R]) rfl (find_yes HF.out HE.out o4 d4)
end Go.Proofs.YtbmocffnnlfnjaaGreat
/-
  Walks: an object of a mapping, whether it is readable and writable.
  Conditions: none.
-/
namespace Go.Proofs.YtbmocffnnlfnjaaGreat
set_option linter.unusedVariables false
set_option linter.unusedSimpArgs false
open Go.RowKit
/-- An object of a mapping: an entry and a number of bits. -/
def objV (e : Ent.En) (A : Option Addr) (n c : Nat) (b : Int) : Value := .agg (#[.int .i64 e.index, .int .i64 e.sub, .string (T e.name), .int .i64 e.type, .int .i64 e.access, .bool e.map, .bool e.store, .int .i64 e.max, .int .i64 e.low, .int .i64 e.high, .slice A n c, .int .i64 b])
set_option maxRecDepth 100000 in
set_option maxHeartbeats 4000000 in
theorem objR_any (e : Ent.En) (A : Option Addr) (n c : Nat) (b : Int) (w : World) : Calls Tryz.prog 88 #[objV e A n c b] w fun x w' => x = .returned (.int .u32 (Ent.readS e)) ∧ Below w.heap.size w w' := by
  obtain ⟨ix, sb, nm, ty, ac, mp, st, mx, lo, hi, df⟩ := e
  unfold objV
  dsimp only
  have CL := fun w => Readable_any ⟨ix, sb, nm, ty, ac, mp, st, mx, lo, hi, df⟩ A n c w
  unfold enV at CL
  dsimp only at CL
  replace CL := Lib.hid CL
  have b0 := alloc_one w (.cells #[.int .i64 ix, .int .i64 sb, .string (T nm), .int .i64 ty, .int .i64 ac, .bool mp, .bool st, .int .i64 mx, .int .i64 lo, .int .i64 hi, .slice A n c, .int .i64 b] 121)
  generalize Ent.readS (⟨ix, sb, nm, ty, ac, mp, st, mx, lo, hi, df⟩ : Ent.En) = r at *
  go_enter Tryz.func88, Tryz.ntmps88
  go_wp2_with fail
  refine (CL.out _).mono ?_
  rintro e w1 ⟨rfl, b1⟩
  have d1 := below_step b0 b1 (Nat.le_refl _)
  go_wp2_with fail
  go_ret
  exact ⟨rfl, d1⟩
set_option maxRecDepth 100000 in
set_option maxHeartbeats 4000000 in
theorem objW_any (e : Ent.En) (A : Option Addr) (n c : Nat) (b : Int) (w : World) : Calls Tryz.prog 89 #[objV e A n c b] w fun x w' => x = .returned (.int .u32 (Ent.writS e)) ∧ Below w.heap.size w w' := by
  obtain ⟨ix, sb, nm, ty, ac, mp, st, mx, lo, hi, df⟩ := e
  unfold objV
  dsimp only
  have CL := fun w => Writable_any ⟨ix, sb, nm, ty, ac, mp, st, mx, lo, hi, df⟩ A n c w
  unfold enV at CL
  dsimp only at CL
  replace CL := Lib.hid CL
  have b0 := alloc_one w (.cells #[.int .i64 ix, .int .i64 sb, .string (T nm), .int .i64 ty, .int .i64 ac, .bool mp, .bool st, .int .i64 mx, .int .i64 lo, .int .i64 hi, .slice A n c, .int .i64 b] 121)
  generalize Ent.writS (⟨ix, sb, nm, ty, ac, mp, st, mx, lo, hi, df⟩ : Ent.En) = r at *
  go_enter Tryz.func89, Tryz.ntmps89
  go_wp2_with fail
  refine (CL.out _).mono ?_
  rintro e w1 ⟨rfl, b1⟩
  have d1 := below_step b0 b1 (Nat.le_refl _)
  go_wp2_with fail
  go_ret
  exact ⟨rfl, d1⟩
end Go.Proofs.YtbmocffnnlfnjaaGreat
