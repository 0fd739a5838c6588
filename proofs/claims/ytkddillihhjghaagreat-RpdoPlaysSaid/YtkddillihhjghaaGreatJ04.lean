/-
  Texts joined: Blk, Words, Cob, PdoPlace, Text, Frame, Open.
  Conditions: none.
-/
import Derived.Test.YtkddillihhjghaaGreatJ02
import Derived.Test.YtkddillihhjghaaGreatJ03
import Derived.Laws.OwnMore
import Derived.Laws.Rows
import Derived.Test.YtkddillihhjghaaGreatProg
import Derived.Laws.Concat
import Derived.Laws.RangeAny
import Derived.ProofKit
import Derived.OpenShut
import Derived.ShutString
import Derived.ChangeOld
import Derived.Deep.Slices
/-
  A block that is known whole.
  Conditions: none.
-/
namespace Go.Proofs.YtkddillihhjghaaGreat
set_option linter.unusedVariables false
set_option linter.unusedSimpArgs false
open Go.RowKit
def Blk (w : World) (g : Nat) (t : TypeId) (cs : Array Value) : Prop := w.heap[g]? = some (.cells cs t (0, 0))
section
variable {w w' : World} {g : Nat} {t : TypeId} {cs : Array Value}
theorem Blk.lt (h : Blk w g t cs) : g < w.heap.size := by
  rcases Nat.lt_or_ge g w.heap.size with hlt | hge
  · exact hlt
  · unfold Blk at h; rw [Array.getElem?_eq_none hge] at h; cases h
theorem Blk.cell (h : Blk w g t cs) (i : Nat) : w.cell? ⟨g, i, none⟩ = cs[i]? := cell_of_row w g i cs t (0, 0) h
theorem Blk.frozen (h : Blk w g t cs) (i : Nat) : w.frozen? ⟨g, i, none⟩ = false := by
  unfold Blk at h
  simp [World.frozen?, h]
theorem Blk.new (w : World) (t : TypeId) (cs : Array Value) : Blk (w.alloc (.cells cs t)) w.heap.size t cs := heap_alloc_new w _
theorem Blk.drew (h : Blk w g t cs) : Blk w.drew g t cs := h
theorem Blk.drewN (h : Blk w g t cs) (n : Nat) : Blk (w.drewN n) g t cs := h
theorem Blk.alloc (h : Blk w g t cs) (o : Obj) : Blk (w.alloc o) g t cs := (Below.heap_alloc w o g h.lt).trans h
theorem Blk.set_ (h : Blk w g t cs) (i : Nat) (u : Value) : Blk (w.setCell ⟨g, i, none⟩ u) g t (cs.setIfInBounds i u) := by
  unfold Blk at h ⊢
  simp [World.setCell, Array.getElem?_modify, h]
theorem Blk.far (h : Blk w g t cs) {p : Addr} (hp : g ≠ p.block) (u : Value) : Blk (w.setCell p u) g t cs := (Below.heap_setCell w p u g hp).trans h
theorem Blk.below {B : Nat} (h : Blk w g t cs) (hb : Below B w w') (hg : g < B) : Blk w' g t cs := (hb.block g hg).trans h
theorem Blk.later (h : Blk w g t cs) (hb : Below w.heap.size w w') : Blk w' g t cs := h.below hb h.lt
theorem Blk.grown {row : Option Nat} (h : Blk w g t cs) (hb : w.grownBy w' row) (hg : some g ≠ row) : Blk w' g t cs := (hb.block g h.lt hg).trans h
theorem Blk.ne_ {g' : Nat} {t' : TypeId} {cs' : Array Value} (h : Blk w g t cs) (h' : Blk w g' t' cs') (hne : t ≠ t') : g ≠ g' := by
  rintro rfl
  unfold Blk at h h'
  rw [h] at h'
  injection h' with h'
  injection h' with _ ht
  exact hne ht
theorem own_blk_ne {base : Nat} {e : TypeId} {size n : Nat} {v : Value} {xs : List Value} (h : w.ownsRow base e size v n xs) (hg : Blk w g t cs) (hne : e ≠ t) : v.ownBlock ≠ some g := by
  rcases h.2 with ⟨rfl, _⟩ | ⟨g', cap, cur, rfl, _, hh, _⟩
  · simp [Value.ownBlock]
  · intro he
    have : g' = g := by simpa [Value.ownBlock] using he
    subst this
    exact Blk.ne_ (t := e) hh hg hne rfl
theorem Blk.made {w1 : World} (hb : Below (w.alloc (.cells cs t)).heap.size (w.alloc (.cells cs t)) w1) : Blk w1 w.heap.size t cs := (Blk.new w t cs).later hb
theorem Blk.one {a : Value} (h : Blk w g t #[a]) : w.cell? ⟨g, 0, none⟩ = some a ∧ w.frozen? ⟨g, 0, none⟩ = false := ⟨h.cell 0, h.frozen 0⟩
theorem Blk.two {a b : Value} (h : Blk w g t #[a, b]) : w.cell? ⟨g, 0, none⟩ = some a ∧ w.cell? ⟨g, 1, none⟩ = some b ∧ (w.frozen? ⟨g, 0, none⟩ = false ∧ w.frozen? ⟨g, 1, none⟩ = false) := ⟨h.cell 0, h.cell 1, h.frozen 0, h.frozen 1⟩
theorem Blk.three {a b c : Value} (h : Blk w g t #[a, b, c]) : w.cell? ⟨g, 0, none⟩ = some a ∧ w.cell? ⟨g, 1, none⟩ = some b ∧ w.cell? ⟨g, 2, none⟩ = some c ∧ (w.frozen? ⟨g, 0, none⟩ = false ∧ w.frozen? ⟨g, 1, none⟩ = false ∧ w.frozen? ⟨g, 2, none⟩ = false) := ⟨h.cell 0, h.cell 1, h.cell 2, h.frozen 0, h.frozen 1, h.frozen 2⟩
/-- As regions that draw their order ask for them. -/
theorem Blk.three3 {a b c : Value} (h : Blk w g t #[a, b, c]) : ∀ (d : Nat) (os : Array Obj), (Sort.grow (redrawn w d) os).cell? ⟨g, 0, none⟩ = some a ∧ (Sort.grow (redrawn w d) os).cell? ⟨g, 1, none⟩ = some b ∧ (Sort.grow (redrawn w d) os).cell? ⟨g, 2, none⟩ = some c := fun d os => by
  have k := h.later (below_regrown w d os)
  exact ⟨k.cell 0, k.cell 1, k.cell 2⟩
theorem Blk.four {a b c d : Value} (h : Blk w g t #[a, b, c, d]) : (w.cell? ⟨g, 0, none⟩ = some a ∧ w.cell? ⟨g, 1, none⟩ = some b ∧ w.cell? ⟨g, 2, none⟩ = some c ∧ w.cell? ⟨g, 3, none⟩ = some d) ∧ (w.frozen? ⟨g, 0, none⟩ = false ∧ w.frozen? ⟨g, 1, none⟩ = false ∧ w.frozen? ⟨g, 2, none⟩ = false ∧ w.frozen? ⟨g, 3, none⟩ = false) := ⟨⟨h.cell 0, h.cell 1, h.cell 2, h.cell 3⟩, h.frozen 0, h.frozen 1, h.frozen 2, h.frozen 3⟩
theorem Blk.four4 {a b c d : Value} (h : Blk w g t #[a, b, c, d]) : ∀ (k : Nat) (os : Array Obj), (Sort.grow (redrawn w k) os).cell? ⟨g, 0, none⟩ = some a ∧ (Sort.grow (redrawn w k) os).cell? ⟨g, 1, none⟩ = some b ∧ (Sort.grow (redrawn w k) os).cell? ⟨g, 2, none⟩ = some c ∧ (Sort.grow (redrawn w k) os).cell? ⟨g, 3, none⟩ = some d := fun k os => by
  have h := h.later (below_regrown w k os)
  exact ⟨h.cell 0, h.cell 1, h.cell 2, h.cell 3⟩
theorem Blk.store3 {a b c : Value} (h : Blk w g t #[a, b, c]) (a' b' c' : Value) : Blk (((w.setCell ⟨g, 0, none⟩ a').setCell ⟨g, 1, none⟩ b').setCell ⟨g, 2, none⟩ c') g t #[a', b', c'] := ((h.set_ 0 a').set_ 1 b').set_ 2 c'
theorem Blk.store4 {a b c d : Value} (h : Blk w g t #[a, b, c, d]) (a' b' c' d' : Value) : Blk ((((w.setCell ⟨g, 0, none⟩ a').setCell ⟨g, 1, none⟩ b').setCell ⟨g, 2, none⟩ c').setCell ⟨g, 3, none⟩ d') g t #[a', b', c', d'] := (((h.set_ 0 a').set_ 1 b').set_ 2 c').set_ 3 d'
theorem below_set3 {B : Nat} (h : Below B w w') (hg : B ≤ g) (i j k : Nat) (a b c : Value) : Below B w (((w'.setCell ⟨g, i, none⟩ a).setCell ⟨g, j, none⟩ b).setCell ⟨g, k, none⟩ c) := ((h.setCell (p := ⟨g, i, none⟩) hg a).setCell (p := ⟨g, j, none⟩) hg b).setCell (p := ⟨g, k, none⟩) hg c
theorem Blk.keep {B : Nat} (h : Blk w g t cs) (hb : Below B w w') (hg : B ≤ g) : B ≤ g ∧ Below B w w' := ⟨hg, hb⟩
theorem OB.far {base : Nat} {A : Option Addr} {n c : Nat} {l : List UInt8} (h : OB w base A n c l) (hg : g < base) (i : Nat) (u : Value) : OB (w.setCell ⟨g, i, none⟩ u) base A n c l := by
  refine h.kept (row := some g) (grown_setCell (World.grownBy.refl _ _) (.inl rfl) u) ?_
  cases e : (Value.slice A n c).ownBlock with
  | none => exact .inl rfl
  | some k =>
    right
    intro he
    have := (h.lt k e).1
    injection he with he
    omega
theorem OV.far {base e size : Nat} {A : Option Addr} {n c : Nat} {l : List Value} (h : OV w base e size A n c l) (hg : g < base) (i : Nat) (u : Value) : OV (w.setCell ⟨g, i, none⟩ u) base e size A n c l := by
  refine h.kept (row := some g) (grown_setCell (World.grownBy.refl _ _) (.inl rfl) u) ?_
  cases e : (Value.slice A n c).ownBlock with
  | none => exact .inl rfl
  | some k =>
    right
    intro he
    have := (h.lt k e).1
    injection he with he
    omega
theorem RB.far {B : Nat} {A : Option Addr} {n c : Nat} {l : List UInt8} (h : RB w B A n c l) (hg : B ≤ g) (i : Nat) (u : Value) : RB (w.setCell ⟨g, i, none⟩ u) B A n c l :=
  h.keep fun q hq => World.cell?_setCell_other w ⟨g, i, none⟩ q u (fun e => by subst e; exact absurd hq (by show ¬ g < B; omega))
theorem OB.far3 {base : Nat} {A : Option Addr} {n c : Nat} {l : List UInt8} (h : OB w base A n c l) (hg : g < base) (i j k : Nat) (a b d : Value) : OB (((w.setCell ⟨g, i, none⟩ a).setCell ⟨g, j, none⟩ b).setCell ⟨g, k, none⟩ d) base A n c l := ((h.far hg i a).far hg j b).far hg k d
end
end Go.Proofs.YtkddillihhjghaaGreat
/-
  Walks: the references' words Join, Lent, Kept, Spoil, Count.
  Conditions: none.
-/
namespace Go.Proofs.YtkddillihhjghaaGreat
set_option linter.unusedVariables false
set_option linter.unusedSimpArgs false
open Go.RowKit
theorem etb : ET Tryz.prog 49 5 1 1 (.int .u8 0) := ⟨Tryz.underlying49, info_parts (by kernel_rfl), rfl, by decide⟩
theorem convb {w : World} {B : Nat} {A : Option Addr} {n c : Nat} {l : List UInt8} (h : RB w B A n c l) :
    (convert 49 9 (.slice A n c)).run Tryz.prog w = .ok (.string ⟨l.toArray⟩) w := h.conv 49 5 Tryz.underlying49 Tryz.underlying5 _ Tryz.underlying9

theorem convb_grow {w : World} {A : Option Addr} {n c B : Nat} {l : List UInt8} (h : RB w B A n c l) (hB : B ≤ w.heap.size) : ∀ (d : Nat) (os : Array Obj),
    (convert 49 9 (.slice A n c)).run Tryz.prog (Go.Sort.grow (redrawn w d) os) = .ok (.string ⟨l.toArray⟩) (Go.Sort.grow (redrawn w d) os) := fun d os => convb (h.below ((below_regrown w d os).mono hB))


set_option maxHeartbeats 400000 in
/-- Both, in new memory. -/
theorem Join_any {A : Option Addr} {n c B : Nat} {l : List UInt8} {A' : Option Addr} {n' c' B' : Nat} {l' : List UInt8} (w : World) (h : RB w B A n c l) (h' : RB w B' A' n' c' l') (hn : n + n' < 140737488355328) (hB : B ≤ w.heap.size) (hB' : B' ≤ w.heap.size) :
    Calls Tryz.prog 31 #[.slice A n c, .slice A' n' c'] w fun e w' => ∃ A1 c1, e = .returned (.slice A1 (n + n') c1) ∧ OB w' w.heap.size A1 (n + n') c1 (l ++ l') ∧ Below w.heap.size w w' := by
  go_enter Tryz.func31, Tryz.ntmps31
  go_wp2_with (first
    | (at_builtin; refine wpList_appb_nil etb rfl (.tmp 6) (.tmp 7) rfl rfl rfl w.heap.size h (by omega) (Nat.le_refl _) ?_; intro A1 c1 w1 h1 hb1)
    | (at_builtin; refine wpList_appb etb rfl (.tmp 9) (.tmp 10) rfl rfl rfl w.heap.size h1 (h'.below (hb1.mono hB')) (by omega) hb1.size ?_; intro A2 c2 w2 h2 hb2 _ _))
  go_ret
  exact ⟨_, _, rfl, h2, hb1.trans hb2⟩



set_option maxHeartbeats 400000 in
/-- It writes over bytes of the call's own, and behind them: to nothing else. -/
theorem Spoil_any {A : Option Addr} {n c base : Nat} {l : List UInt8} (w : World) (h : OB w base A n c l) (hn : n < 140737488355328) (hB : base ≤ w.heap.size) :
    Calls Tryz.prog 17 #[.slice A n c] w fun e w' => e = .returned (.tuple #[]) ∧ Below base w w' ∧ w.grownBy w' (Value.slice A n c).ownBlock := by
  go_enter Tryz.func17, Tryz.ntmps17
  go_wp2_with fail
  go_loopw [2] (fun i wr => ∃ (k : Nat) (l' : List UInt8), k ≤ n ∧ i = .int .i64 k ∧ OB wr base A n c l' ∧ Below base w wr ∧ w.grownBy wr (Value.slice A n c).ownBlock) (fun i _ => n - (intOf i).toNat)
  case atStart => exact ⟨0, l, Nat.zero_le _, rfl, h, Below.refl _ _, World.grownBy.refl _ _⟩
  case round =>
    obtain ⟨k, l', hk, rfl, hown, hbel, hgr⟩ := hrel
    by_cases hlt : k < n
    · obtain ⟨g, rfl, hbg, hlg⟩ := hown.head (by omega)
      have hck := hown.cell hlt
      have hfr := hown.free k
      have hx := byte_lt (l'.getD k 0)
      generalize hxe : l'.getD k 0 = x at *
      clear h hxe
      go_wp2
      go_roundw
      case rel =>
        have R := hown.setv k (x ^^^ 90) (u8_xor_bytes x 90)
        exact ⟨k + 1, _, by omega, by go_num, R.1, hbel.setCell (p := ⟨g, k, none⟩) hbg _, World.grownBy.trans hgr R.2⟩
      case measure => simp [intOf]; omega
    · obtain rfl : k = n := by omega
      go_wp2_with (at_builtin; refine wpList_appb_one etb rfl (.tmp 17) (.tmp 18) rfl rfl rfl base hown 99 rfl (by omega) (Nat.le_trans hB hbel.size) ?_; intro A1 c1 w1 h1 hb1 hg1 hloc; obtain ⟨g1, rfl, hg1b, hg1l⟩ := h1.head (by omega); have hc1 := h1.cell (i := k) (by omega); have hf1 := h1.free k)
      go_end0
      refine ⟨rfl, (hbel.trans hb1).setCell (p := ⟨g1, k, none⟩) hg1b _, grown_setCell (World.grownBy.trans hgr hg1) ?_ _⟩
      rcases hloc with e | e
      · exact .inl e
      · right
        have e : g1 = wr.heap.size + 1 := by simpa [Value.ownBlock] using e
        have := hbel.size
        show w.heap.size ≤ g1
        omega

end Go.Proofs.YtkddillihhjghaaGreat
/-
  Walks: Split and Restricted of layer 11, and why a word can not be a PDO's.
  Conditions: none.
-/
namespace Go.Proofs.YtkddillihhjghaaGreat
set_option linter.unusedVariables false
set_option linter.unusedSimpArgs false
open Go.RowKit
set_option maxRecDepth 100000 in
set_option maxHeartbeats 1000000 in
theorem CSplit_bad (v : Nat) (hv : v < 4294967296) (h : Cob.bad v = true) (w : World) : Calls Tryz.prog 32 #[.int .u32 (v : Int)] w fun e w' => e = .returned (.tuple #[.agg #[.bool false, .bool false, .int .i64 0], .int .i64 4]) ∧ Below w.heap.size w w' := by
  have e1 := Cob.andNot_top v hv
  have h2 : 2048 ≤ v % 1073741824 := by unfold Cob.bad at h; exact of_decide_eq_true h
  generalize v % 1073741824 = r at *
  have b0 := alloc_one w (.cells #[.bool false, .bool false, .int .i64 0] 83)
  have K := Blk.new w 83 #[.bool false, .bool false, .int .i64 0]
  have F := K.three
  clear h
  go_enter Tryz.func32, Tryz.ntmps32
  go_wp2_with fail
  have R := K.three
  exact bodyPost_ret (v := .tuple #[.agg #[.bool false, .bool false, .int .i64 0], .int .i64 4]) (by simp [results, Tryz.results32, go_sem, R]) rfl ⟨rfl, b0⟩
set_option maxRecDepth 100000 in
set_option maxHeartbeats 1000000 in
theorem CSplit_ok (v : Nat) (hv : v < 4294967296) (h : Cob.bad v = false) (w : World) : Calls Tryz.prog 32 #[.int .u32 (v : Int)] w fun e w' => e = .returned (.tuple #[.agg #[.bool (Cob.off v), .bool (Cob.noR v), .int .i64 (Cob.id v : Int)], .int .i64 0]) ∧ Below w.heap.size w w' := by
  have e1 := Cob.andNot_top v hv
  have e2 := Cob.and_off v hv
  have e3 := Cob.and_noR v hv
  have h2 : v % 1073741824 < 2048 := by unfold Cob.bad at h; have := of_decide_eq_false h; omega
  have hid : v % 1073741824 = Cob.id v := by unfold Cob.id; omega
  rw [hid] at e1 h2
  have e4 : wrap64 (Cob.id v : Int) = (Cob.id v : Int) := by unfold wrap64; omega
  generalize Cob.off v = o at *
  generalize Cob.noR v = nr at *
  generalize Cob.id v = i at *
  have b0 := alloc_one w (.cells #[.bool false, .bool false, .int .i64 0] 83)
  have K := Blk.new w 83 #[.bool false, .bool false, .int .i64 0]
  have F := K.three
  clear h hid
  go_enter Tryz.func32, Tryz.ntmps32
  go_wp2_with fail
  have R := (Blk.new w 83 #[.bool o, .bool nr, .int .i64 (i : Int)]).three
  exact bodyPost_ret (v := .tuple #[.agg #[.bool o, .bool nr, .int .i64 (i : Int)], .int .i64 0]) (by simp [results, Tryz.results32, go_sem, R]) rfl ⟨rfl, alloc_one _ _⟩
theorem cbetween_any (n a b : Int) (w : World) : Calls Tryz.prog 80 #[.int .i64 n, .int .i64 a, .int .i64 b] w fun e w' => e = .returned (.bool (decide (a ≤ n ∧ n ≤ b))) ∧ w = w' := by
  by_cases h1 : a ≤ n
  · by_cases h2 : n ≤ b
    · rw [decide_eq_true (And.intro h1 h2)]
      go_enter Tryz.func80, Tryz.ntmps80
      go_wp2_with fail
      go_ret
      exact ⟨rfl, rfl⟩
    · rw [decide_eq_false (fun h : a ≤ n ∧ n ≤ b => h2 h.2)]
      go_enter Tryz.func80, Tryz.ntmps80
      go_wp2_with fail
      go_ret
      exact ⟨rfl, rfl⟩
  · rw [decide_eq_false (fun h : a ≤ n ∧ n ≤ b => h1 h.1)]
    go_enter Tryz.func80, Tryz.ntmps80
    go_wp2_with fail
    go_ret
    exact ⟨rfl, rfl⟩
set_option maxHeartbeats 2000000 in
theorem Restricted_any (n : Int) (w : World) : Calls Tryz.prog 55 #[.int .i64 n] w fun e w' => e = .returned (.bool (Cob.restr n)) ∧ w = w' := by
  have B := fun a b => Lib.hid (fun w => cbetween_any n a b w)
  have B1 := B 257 384
  have B2 := B 1409 1535
  have B3 := B 1537 1663
  have B4 := B 1760 1791
  clear B
  have hr : Cob.restr n = (decide (n < 128) || decide (2047 < n) || decide (257 ≤ n ∧ n ≤ 384) || decide (1409 ≤ n ∧ n ≤ 1535) || decide (1537 ≤ n ∧ n ≤ 1663) || decide (1760 ≤ n ∧ n ≤ 1791) || decide (1792 < n)) := by
    unfold Cob.restr
    rw [Bool.eq_iff_iff]
    simp only [Bool.or_eq_true, decide_eq_true_eq, or_assoc]
  rw [hr]
  clear hr
  generalize hb1 : decide (257 ≤ n ∧ n ≤ 384) = b1 at *
  generalize hb2 : decide (1409 ≤ n ∧ n ≤ 1535) = b2 at *
  generalize hb3 : decide (1537 ≤ n ∧ n ≤ 1663) = b3 at *
  generalize hb4 : decide (1760 ≤ n ∧ n ≤ 1791) = b4 at *
  clear hb1 hb2 hb3 hb4
  by_cases h1 : n < 128
  · simp only [h1, decide_true, Bool.true_or]
    go_enter Tryz.func55, Tryz.ntmps55
    go_wp2_with fail
    go_ret
    exact ⟨rfl, rfl⟩
  · by_cases h2 : 2047 < n
    · simp only [h1, h2, decide_true, Bool.true_or, Bool.or_true]
      go_enter Tryz.func55, Tryz.ntmps55
      go_wp2_with fail
      go_ret
      exact ⟨rfl, rfl⟩
    · simp only [h1, h2, decide_false, Bool.false_or]
      go_enter Tryz.func55, Tryz.ntmps55
      go_wp2_with fail
      refine (B1.out _).mono ?_
      rintro e _ ⟨rfl, rfl⟩
      cases b1
      · go_wp2_with fail
        refine (B2.out _).mono ?_
        rintro e _ ⟨rfl, rfl⟩
        cases b2
        · go_wp2_with fail
          refine (B3.out _).mono ?_
          rintro e _ ⟨rfl, rfl⟩
          cases b3
          · go_wp2_with fail
            refine (B4.out _).mono ?_
            rintro e _ ⟨rfl, rfl⟩
            cases b4
            · by_cases h3 : 1792 < n
              · go_wp2_with fail
                go_ret
                exact ⟨by simp [h3], rfl⟩
              · go_wp2_with fail
                go_ret
                exact ⟨by simp [h3], rfl⟩
            · go_wp2_with fail
              go_ret
              exact ⟨rfl, rfl⟩
          · go_wp2_with fail
            go_ret
            exact ⟨rfl, rfl⟩
        · go_wp2_with fail
          go_ret
          exact ⟨rfl, rfl⟩
      · go_wp2_with fail
        go_ret
        exact ⟨rfl, rfl⟩
end Go.Proofs.YtkddillihhjghaaGreat
/-
  Walks: why a word can not be a PDO's, of layers 31 and 32.
  Conditions: none.
-/
namespace Go.Proofs.YtkddillihhjghaaGreat
set_option linter.unusedVariables false
set_option linter.unusedSimpArgs false
open Go.RowKit
set_option maxRecDepth 100000 in
set_option maxHeartbeats 1000000 in
theorem rplace_any (v : Nat) (hv : v < 4294967296) (w : World) : Calls Tryz.prog 35 #[.int .u32 (v : Int)] w fun e w' => e = .returned (.int .u32 (Cob.place v)) ∧ Below w.heap.size w w' := by
  unfold Cob.place
  cases hb : Cob.bad v
  · have SP := Lib.hid (fun w => CSplit_ok v hv hb w)
    have RE := Lib.hid (fun w => Restricted_any (Cob.id v : Int) w)
    clear hb
    simp only [Bool.false_eq_true, if_false]
    generalize Cob.restr (Cob.id v : Int) = rs at *
    generalize (Cob.id v : Int) = i at *
    generalize Cob.noR v = nr at *
    cases ho : Cob.off v
    · rw [ho] at SP
      clear ho
      cases rs
      all_goals
        simp only [Bool.false_eq_true, and_false, if_false, and_self, if_true, true_and]
        go_enter Tryz.func35, Tryz.ntmps35
        go_wp2_with fail
        refine (SP.out _).mono ?_
        rintro e w1 ⟨rfl, b1⟩
        have b2 := alloc_one w1 (.cells #[.bool false, .bool nr, .int .i64 i] 83)
        have K := (Blk.new w1 83 #[.bool false, .bool nr, .int .i64 i]).three
        go_wp2_with fail
        refine (RE.out _).mono ?_
        rintro e _ ⟨rfl, rfl⟩
        go_wp2_with fail
        go_ret
        exact ⟨rfl, below_step b1 b2 (Nat.le_refl _)⟩
    · rw [ho] at SP
      clear ho
      simp only [Bool.true_eq_false, false_and, if_false]
      go_enter Tryz.func35, Tryz.ntmps35
      go_wp2_with fail
      refine (SP.out _).mono ?_
      rintro e w1 ⟨rfl, b1⟩
      have b2 := alloc_one w1 (.cells #[.bool true, .bool nr, .int .i64 i] 83)
      have K := (Blk.new w1 83 #[.bool true, .bool nr, .int .i64 i]).three
      go_wp2_with fail
      go_ret
      exact ⟨rfl, below_step b1 b2 (Nat.le_refl _)⟩
  · have SP := Lib.hid (fun w => CSplit_bad v hv hb w)
    clear hb
    simp only [if_true]
    go_enter Tryz.func35, Tryz.ntmps35
    go_wp2_with fail
    refine (SP.out _).mono ?_
    rintro e w1 ⟨rfl, b1⟩
    have b2 := alloc_one w1 (.cells #[.bool false, .bool false, .int .i64 0] 83)
    have K := (Blk.new w1 83 #[.bool false, .bool false, .int .i64 0]).three
    go_wp2_with fail
    go_ret
    exact ⟨rfl, below_step b1 b2 (Nat.le_refl _)⟩
end Go.Proofs.YtkddillihhjghaaGreat
/-
  Strings as lists of bytes: cuts, places, sums, under one name.
  Conditions: none.
-/
namespace Go.Proofs.YtkddillihhjghaaGreat
set_option linter.unusedVariables false
set_option linter.unusedSimpArgs false
open Go.RowKit
/-- A list of bytes as a string. -/
def T (s : List UInt8) : ByteArray := ⟨s.toArray⟩
theorem T_inj {a b : List UInt8} (h : T a = T b) : a = b := by
  unfold T at h
  injection h with h
  simpa using h
theorem T_ne {a b : List UInt8} (h : a ≠ b) : T a ≠ T b := fun e => h (T_inj e)
theorem toList_loop (bs : ByteArray) : ∀ (d i : Nat) (r : List UInt8), bs.size - i = d → ByteArray.toList.loop bs i r = r.reverse ++ bs.data.toList.drop i := by
  intro d
  induction d with
  | zero =>
    intro i r h
    have h2 : bs.data.toList.length ≤ i := by show bs.data.size ≤ i; have : bs.size = bs.data.size := rfl; omega
    rw [ByteArray.toList.loop, if_neg (by omega), List.drop_of_length_le h2, List.append_nil]
  | succ d ih =>
    intro i r h
    have hi : i < bs.size := by omega
    have hi' : i < bs.data.toList.length := hi
    rw [ByteArray.toList.loop, if_pos hi, ih (i + 1) _ (by omega), List.drop_eq_getElem_cons hi', List.reverse_cons, List.append_assoc]
    congr 2
    rw [List.cons_append, List.nil_append]
    congr 1
    have h3 : bs.get! i = bs[i] := by simp [ByteArray.get!, getElem!_pos, hi]; rfl
    rw [h3]
    rfl
theorem T_toList (s : List UInt8) : (T s).toList = s := by
  have := toList_loop (T s) _ 0 [] rfl
  exact this.trans (by simp [T])
theorem T_size (s : List UInt8) : (T s).size = s.length := by show s.toArray.size = _; simp
theorem T_of (t : ByteArray) : ∃ s, t = T s := ⟨t.data.toList, by cases t; simp [T]⟩
theorem T_get (s : List UInt8) (k : Nat) (h : k < (T s).size) : (T s)[k]'h = s.getD k 0 := by
  have h' : k < s.length := by rw [T_size] at h; exact h
  show s.toArray[k] = _
  simp [List.getD, h']
theorem T_append (a b : List UInt8) : T a ++ T b = T (a ++ b) := by
  apply ByteArray.ext
  simp [T]
theorem T_extract (s : List UInt8) (i j : Nat) : (T s).extract i j = T ((s.take j).drop i) := by
  apply ByteArray.ext
  simp [T, List.extract_toArray, List.drop_take]
theorem run_T_at (s : List UInt8) (kd : IntKind) (z : Int) (k : Nat) (hz : z = (k : Int)) (hk : k < s.length) (w : World) :
    (Instr.index 9 (.string (T s)) (.int kd z)).run Tryz.prog w = .ok (.int .u8 ((s.getD k 0).toNat : Int)) w := by
  subst hz
  rw [run_index_string w _ _ kd _ Tryz.underlying9, dif_pos ⟨by omega, by rw [T_size]; exact Int.ofNat_lt.2 hk⟩]
  have e : ((k : Int)).toNat = k := by omega
  simp only [e, T_get]
theorem run_T_add (s t : List UInt8) (h : s.length + t.length ≤ 9223372036854775807) (w : World) : (Op.stringOp .add (T s) (T t)).run Tryz.prog w = .ok (.string (T (s ++ t))) w := by
  rw [run_string_add_sum w _ _ (by rw [T_size, T_size]; exact h), T_append]
/-- 's[i:j]' -/
theorem run_T_cut (s : List UInt8) (k1 k2 : IntKind) (z1 z2 : Int) (i j : Nat) (h1 : z1 = (i : Int)) (h2 : z2 = (j : Int)) (hij : i ≤ j) (hj : j ≤ s.length) (hs : s.length ≤ 9223372036854775807) (w : World) :
    (Instr.slice 9 (.string (T s)) (some (.int k1 z1)) (some (.int k2 z2)) none).run Tryz.prog w = .ok (.string (T ((s.take j).drop i))) w := by
  subst h1 h2
  have b1 : ∀ code, (Instr.sliceBound (.int k2 (j : Int)) (T s).size code).run Tryz.prog w = .ok j w := fun code => by
    rw [run_sliceBound w k2 _ _ code (by omega) (by rw [T_size]; omega)]; congr 1
  have b2 : ∀ code, (Instr.sliceBound (.int k1 (i : Int)) j code).run Tryz.prog w = .ok i w := fun code => by
    rw [run_sliceBound w k1 _ _ code (by omega) (by omega)]; congr 1
  simp [Instr.slice, run_underlying Tryz.underlying9, Instr.sliceBounds, b1, b2, T_extract, go_sem]
  intro h
  omega
/-- 's[:j]' -/
theorem run_T_head (s : List UInt8) (k2 : IntKind) (z2 : Int) (j : Nat) (h2 : z2 = (j : Int)) (hj : j ≤ s.length) (w : World) :
    (Instr.slice 9 (.string (T s)) none (some (.int k2 z2)) none).run Tryz.prog w = .ok (.string (T (s.take j))) w := by
  subst h2
  have b1 : ∀ code, (Instr.sliceBound (.int k2 (j : Int)) (T s).size code).run Tryz.prog w = .ok j w := fun code => by
    rw [run_sliceBound w k2 _ _ code (by omega) (by rw [T_size]; omega)]; congr 1
  simp [Instr.slice, run_underlying Tryz.underlying9, Instr.sliceBounds, b1, T_extract, go_sem]
/-- 's[i:]' -/
theorem run_T_rest (s : List UInt8) (k1 : IntKind) (z1 : Int) (i : Nat) (h1 : z1 = (i : Int)) (hi : i ≤ s.length) (w : World) :
    (Instr.slice 9 (.string (T s)) (some (.int k1 z1)) none none).run Tryz.prog w = .ok (.string (T (s.drop i))) w := by
  subst h1
  have b1 : ∀ code, (Instr.sliceBound (.int k1 (i : Int)) (T s).size code).run Tryz.prog w = .ok i w := fun code => by
    rw [run_sliceBound w k1 _ _ code (by omega) (by rw [T_size]; omega)]; congr 1
  have e : (T s).extract i (T s).size = T (s.drop i) := by rw [T_extract, T_size, List.take_length]
  simp [Instr.slice, run_underlying Tryz.underlying9, Instr.sliceBounds, b1, e, go_sem]
end Go.Proofs.YtkddillihhjghaaGreat
/-
  The row's frame: what an argument that reads as bytes is in memory.
  Conditions: none.
-/
namespace Go.Proofs.YtkddillihhjghaaGreat
set_option linter.unusedVariables false
set_option linter.unusedSimpArgs false
open Go.ChangeShapes Go.WideShapes Go.ChangeAt Go.RowKit
theorem wf_u8 {n : Int} (h : (Lit.int .u8 n).wf = true) : 0 ≤ n ∧ n ≤ 255 := bounds_u8 h
section
variable {H : Type} {enc : TypeId × Value → H} {P : Program} {w : World} {spare : Nat → Bool} {held : Bool}
/-- An argument '[]byte'. -/
theorem open_bytes {t e : TypeId} {A : Option Addr} {n c : Nat} {x : DataW H × List MemPlace} {fuel : Nat} (ht : P.underlying t = some (.slice e)) (he : P.underlying e = some (.int .u8)) (hc : P.cellsOf e = 1)
    (h : DataW.trod enc P w 0 spare held fuel t [.slice A n c] = some x) : ∃ l, RB w w.heap.size A n c l := by
  rcases open_ints ht he hc h with ⟨hcs, _⟩ | ⟨a, len, cap, zs, hcs, _, hl, hm, hz, _, hcell, hwz⟩
  · simp at hcs
    obtain ⟨rfl, rfl, rfl⟩ := hcs
    exact ⟨[], RB.none_⟩
  · simp at hcs
    obtain ⟨rfl, rfl, rfl⟩ := hcs
    have hzl : n ≤ zs.length := by rw [hz]; split <;> omega
    refine ⟨(zs.take n).map fun z => UInt8.ofNat z.toNat, by simp; omega, hl, by simpa [maxLen] using hm, (fun e => by cases e), fun hn => ?_⟩
    obtain ⟨b, off, spot⟩ := a
    have h0 := hcell 0 (by omega)
    have hspot : spot = none := by simpa [Addr.add] using World.cell?_spot h0
    subst hspot
    refine ⟨b, off, rfl, ?_, fun i hi => ?_⟩
    · have := World.block_lt_of_cell? w _ h0
      simpa [Addr.add_lit] using this
    · have h1 := hcell i (by omega)
      rw [Addr.add_lit] at h1
      rw [h1]
      have hil : i < zs.length := by omega
      have hw := bounds_u8 (hwz zs[i] (List.getElem_mem hil))
      have e1 : zs.getD i 0 = zs[i] := by simp [List.getD, hil]
      have e2 : ((zs.take n).map fun z => UInt8.ofNat z.toNat).getD i 0 = UInt8.ofNat zs[i].toNat := by
        simp [List.getD, hil, hi]
      rw [e1, e2, UInt8.toNat_ofNat']
      congr 2
      omega
end
end Go.Proofs.YtkddillihhjghaaGreat
/-
  Arguments as cells: structs of any fields, slices of any elements.
  Conditions: none.
-/
namespace Go.Proofs.YtkddillihhjghaaGreat
set_option linter.unusedVariables false
set_option linter.unusedSimpArgs false
open Go.ChangeShapes Go.WideShapes Go.ChangeAt Go.RowKit
/-- The cells xs are the elements fs, 'size' cells an element. -/
def Rows {α : Type} (R : α → List Value → Prop) (size : Nat) (fs : List α) (xs : List Value) : Prop :=
  xs.length = fs.length * size ∧ ∀ i f, fs[i]? = some f → R f ((xs.drop (i * size)).take size)
section
variable {α : Type} {R R' : α → List Value → Prop} {size : Nat} {fs gs : List α} {xs ys : List Value}
theorem Rows.nil : Rows R size [] [] := ⟨by simp, fun i f h => by simp at h⟩
theorem Rows.imp (h : Rows R size fs xs) (hi : ∀ f cs, R f cs → R' f cs) : Rows R' size fs xs := ⟨h.1, fun i f hf => hi _ _ (h.2 i f hf)⟩
theorem Rows.append (h : Rows R size fs xs) (h' : Rows R size gs ys) : Rows R size (fs ++ gs) (xs ++ ys) := by
  refine ⟨by rw [List.length_append, List.length_append, h.1, h'.1, Nat.add_mul], fun i f hf => ?_⟩
  rcases Nat.lt_or_ge i fs.length with hi | hi
  · rw [List.getElem?_append_left hi] at hf
    have h1 := h.2 i f hf
    have hle : (i + 1) * size ≤ xs.length := by rw [h.1]; exact Nat.mul_le_mul_right _ hi
    rw [Nat.add_mul, Nat.one_mul] at hle
    rw [List.drop_append_of_le_length (by omega), List.take_append_of_le_length (by rw [List.length_drop]; omega)]
    exact h1
  · rw [List.getElem?_append_right hi] at hf
    have h1 := h'.2 _ f hf
    have e : i * size = xs.length + (i - fs.length) * size := by rw [h.1, Nat.sub_mul]; have := Nat.mul_le_mul_right size hi; omega
    rw [e, List.drop_append, List.drop_of_length_le (by omega), List.nil_append, Nat.add_sub_cancel_left]
    exact h1
theorem Rows.one {f : α} {cs : List Value} (h : R f cs) (hl : cs.length = size) : Rows R size [f] cs := by
  refine ⟨by simpa using hl, fun i g hg => ?_⟩
  cases i with
  | zero => simp at hg; subst hg; simpa [List.take_of_length_le (Nat.le_of_eq hl)] using h
  | succ i => simp at hg
theorem Rows.take (h : Rows R size fs xs) (k : Nat) (hk : k ≤ fs.length) : Rows R size (fs.take k) (xs.take (k * size)) := by
  have hle := Nat.mul_le_mul_right size hk
  refine ⟨by rw [List.length_take, List.length_take, h.1, Nat.min_eq_left hle, Nat.min_eq_left hk], fun i f hf => ?_⟩
  rw [List.getElem?_take] at hf
  split at hf
  · rename_i hi
    have h1 := h.2 i f hf
    have h2 : (i + 1) * size ≤ k * size := Nat.mul_le_mul_right _ hi
    rw [Nat.add_mul, Nat.one_mul] at h2
    rw [List.drop_take, List.take_take, Nat.min_eq_left (by omega)]
    exact h1
  · cases hf
theorem Rows.drop (h : Rows R size fs xs) (k : Nat) : Rows R size (fs.drop k) (xs.drop (k * size)) := by
  refine ⟨by rw [List.length_drop, List.length_drop, h.1, Nat.sub_mul], fun i f hf => ?_⟩
  rw [List.getElem?_drop] at hf
  have h1 := h.2 _ f hf
  rw [List.drop_drop, ← Nat.add_mul]
  exact h1
theorem Rows.len (h : Rows R size fs xs) : xs.length = fs.length * size := h.1
end
section
variable {H : Type} {enc : TypeId × Value → H} {P : Program} {w : World} {spare : Nat → Bool} {held : Bool} {base : Nat}
theorem trod_field {t : TypeId} {fs : Array Field} {fuel : Nat} {cs : List Value} {x : DataW H × List MemPlace} (ht : P.underlying t = some (.struct fs)) (h : DataW.trod enc P w base spare held fuel t cs = some x) :
    cs.length = P.cellsOf t ∧ ∀ (i : Nat) (f : Field), fs[i]? = some f → ∃ n y, DataW.trod enc P w base spare held n f.type ((cs.drop f.offset).take (P.cellsOf f.type)) = some y := by
  obtain ⟨ys, n, _, _, hlen, hyl, hf⟩ := DataW.trod_struct ht h
  refine ⟨hlen, fun i f hi => ?_⟩
  have h1 := hf i f hi
  have hi' : i < ys.length := by rw [hyl]; exact (Array.getElem?_eq_some_iff.1 hi).1
  rw [List.getElem?_eq_getElem hi'] at h1
  exact ⟨n, _, h1⟩
theorem trod_len {t : TypeId} {fs : Array Field} {fuel : Nat} {cs : List Value} {x : DataW H × List MemPlace} {m : Nat} (ht : P.underlying t = some (.struct fs)) (h : DataW.trod enc P w base spare held fuel t cs = some x) (hm : P.cellsOf t = m) : cs.length = m := (trod_field ht h).1.trans hm
/-- Field i: m cells from 'off' on. -/
theorem trod_part {t : TypeId} {fs : Array Field} {fuel : Nat} {cs : List Value} {x : DataW H × List MemPlace} (ht : P.underlying t = some (.struct fs)) (h : DataW.trod enc P w base spare held fuel t cs = some x)
    (i ft off m : Nat) (hi : (fs[i]?).map (fun f => (f.type, f.offset)) = some (ft, off)) (hc : P.cellsOf ft = m) : ∃ n y, DataW.trod enc P w base spare held n ft ((cs.drop off).take m) = some y := by
  cases hf : fs[i]? with
  | none => rw [hf] at hi; simp at hi
  | some f =>
    rw [hf] at hi
    simp only [Option.map_some, Option.some.injEq, Prod.mk.injEq] at hi
    obtain ⟨h1, h2⟩ := hi
    obtain ⟨n, y, h3⟩ := (trod_field ht h).2 i f hf
    rw [h1, h2, hc] at h3
    exact ⟨n, y, h3⟩
/-- A field of one cell. -/
theorem trod_one {t : TypeId} {fs : Array Field} {fuel : Nat} {cs : List Value} {x : DataW H × List MemPlace} (ht : P.underlying t = some (.struct fs)) (h : DataW.trod enc P w base spare held fuel t cs = some x)
    (i ft off : Nat) (v : Value) (hi : (fs[i]?).map (fun f => (f.type, f.offset)) = some (ft, off)) (hc : P.cellsOf ft = 1) (hv : cs[off]? = some v) : ∃ n y, DataW.trod enc P w base spare held n ft [v] = some y := by
  obtain ⟨n, y, h1⟩ := trod_part ht h i ft off 1 hi hc
  have hl : off < cs.length := (List.getElem?_eq_some_iff.1 hv).1
  have e : (cs.drop off).take 1 = [v] := by
    rw [List.drop_eq_getElem_cons hl, List.take_succ_cons, List.take_zero]
    rw [List.getElem?_eq_getElem hl] at hv
    injection hv with hv
    rw [hv]
  rw [e] at h1
  exact ⟨n, y, h1⟩
theorem cell_int {t : TypeId} {k : IntKind} {fuel : Nat} {v : Value} {x : DataW H × List MemPlace} (ht : P.underlying t = some (.int k)) (h : DataW.trod enc P w base spare held fuel t [v] = some x) : ∃ z, v = .int k z ∧ (Lit.int k z).wf = true := by
  obtain ⟨z, e, _, hw⟩ := DataW.trod_int ht h
  injection e with e
  exact ⟨z, e, hw⟩
theorem cell_bool {t : TypeId} {fuel : Nat} {v : Value} {x : DataW H × List MemPlace} (ht : P.underlying t = some .bool) (h : DataW.trod enc P w base spare held fuel t [v] = some x) : ∃ b, v = .bool b := by
  obtain ⟨b, e, _⟩ := DataW.trod_bool ht h
  injection e with e
  exact ⟨b, e⟩
theorem cell_string {t : TypeId} {fuel : Nat} {v : Value} {x : DataW H × List MemPlace} (ht : P.underlying t = some .string) (h : DataW.trod enc P w base spare held fuel t [v] = some x) : ∃ s : ByteArray, v = .string s ∧ s.size ≤ maxLen := by
  obtain ⟨s, e, _, hw⟩ := DataW.trod_string ht h
  injection e with e
  exact ⟨s, e, hw⟩
theorem cell_slice {t e : TypeId} {fuel : Nat} {v : Value} {x : DataW H × List MemPlace} (ht : P.underlying t = some (.slice e)) (h : DataW.trod enc P w base spare held fuel t [v] = some x) : ∃ A n c, v = .slice A n c := by
  rcases Deep.open_slice ht h with ⟨h0, _⟩ | ⟨a, len, cap, m, n, D, Pl, hcs, _⟩
  · injection h0 with h0; exact ⟨_, _, _, h0⟩
  · injection hcs with h0; exact ⟨_, _, _, h0⟩
theorem cell_bytes {t e : TypeId} {fuel : Nat} {v : Value} {x : DataW H × List MemPlace} (ht : P.underlying t = some (.slice e)) (he : P.underlying e = some (.int .u8)) (hc : P.cellsOf e = 1)
    (h : DataW.trod enc P w 0 spare held fuel t [v] = some x) : ∃ A n c l, v = .slice A n c ∧ RB w w.heap.size A n c l := by
  obtain ⟨A, n, c, rfl⟩ := cell_slice ht h
  obtain ⟨l, hl⟩ := open_bytes ht he hc h
  exact ⟨A, n, c, l, rfl, hl⟩
theorem open_rows {α : Type} (R : α → List Value → Prop) {t e : TypeId} {size : Nat} (ht : P.underlying t = some (.slice e)) (hC : P.cellsOf e = size) (hs : 0 < size)
    (hR : ∀ n cs y, DataW.trod enc P w base spare held n e cs = some y → ∃ f, R f cs) {A : Option Addr} {n c fuel : Nat} {x : DataW H × List MemPlace} (h : DataW.trod enc P w base spare held fuel t [.slice A n c] = some x) :
    ∃ fs xs, fs.length = n ∧ RV w w.heap.size size A n c xs ∧ Rows R size fs xs := by
  rcases Deep.open_slice ht h with ⟨h0, _⟩ | ⟨a, len, cap, m, nn, D, Pl, hcs, hb, hl, hcap, hm, _, hi⟩
  · injection h0 with h0
    injection h0 with h1 h2 h3
    subst h1 h2 h3
    exact ⟨[], [], rfl, RV.none_, Rows.nil⟩
  · injection hcs with h0
    injection h0 with h1 h2 h3
    subst h1 h2 h3
    have hnm : n ≤ m := by rw [hm]; split <;> omega
    have build : ∀ k, k ≤ n → ∃ fs xs, fs.length = k ∧ Rows R size fs xs ∧ ∀ j u, xs[j]? = some u → w.cell? (a.add j) = some u := by
      intro k
      induction k with
      | zero => exact fun _ => ⟨[], [], rfl, Rows.nil, fun j u hj => by simp at hj⟩
      | succ k ih =>
        intro hk
        obtain ⟨fs, xs, h1, h2, h3⟩ := ih (by omega)
        obtain ⟨cs, hc, ht'⟩ := hi k (by omega)
        obtain ⟨f, hf⟩ := hR _ _ _ ht'
        rw [hC] at hc
        obtain ⟨_, hcl, hat⟩ := World.cells?_some hc
        refine ⟨fs ++ [f], xs ++ cs, by simp [h1], h2.append (Rows.one hf hcl), fun j u hj => ?_⟩
        rcases Nat.lt_or_ge j xs.length with hlt | hge
        · rw [List.getElem?_append_left hlt] at hj
          exact h3 j u hj
        · rw [List.getElem?_append_right hge] at hj
          have hj' : j - xs.length < size := by have := (List.getElem?_eq_some_iff.1 hj).1; omega
          have h4 := hat (j - xs.length) hj'
          rw [Deep.add_add, hj] at h4
          rw [← h4, h2.1, h1]
          congr 2
          rw [h2.1, h1] at hge
          omega
    obtain ⟨fs, xs, h1, h2, h3⟩ := build n (Nat.le_refl _)
    refine ⟨fs, xs, h1, ⟨by rw [h2.1, h1], hl, by simpa [maxLen] using hcap, (fun e => by cases e), fun hn => ?_⟩, h2⟩
    have hx0 : 0 < xs.length := by rw [h2.1, h1]; exact Nat.mul_pos hn hs
    have h0 := h3 0 _ (List.getElem?_eq_getElem hx0)
    obtain ⟨b, off, spot⟩ := a
    have hspot : spot = none := by simpa [Addr.add] using World.cell?_spot h0
    subst hspot
    refine ⟨b, off, rfl, ?_, fun j u hu => ?_⟩
    · have := World.block_lt_of_cell? w _ h0
      simpa [Addr.add_lit] using this
    · have := h3 j u hu
      rwa [Addr.add_lit] at this
end
end Go.Proofs.YtkddillihhjghaaGreat
