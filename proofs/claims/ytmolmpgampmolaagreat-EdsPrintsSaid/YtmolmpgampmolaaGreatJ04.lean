/-
  Texts joined: Words, Text, Blk, Typ, TypOf, TypLim, EdsPure.
  Conditions: none.
-/
import Derived.Test.YtmolmpgampmolaaGreatJ01
import Derived.Test.YtmolmpgampmolaaGreatJ02
import Derived.Test.YtmolmpgampmolaaGreatJ03
import Derived.Test.YtmolmpgampmolaaGreatProg
import Derived.Laws.Concat
import Derived.Laws.RangeAny
import Derived.Laws.OwnMore
import Derived.Laws.Rows
import Derived.Laws.Tables
import Derived.KernelRfl
import Derived.Deep.QuietTactic
import Derived.BigQuiet
/-
  Walks: the references' words Join, Lent, Kept, Spoil, Count.
  Conditions: none.
-/
namespace Go.Proofs.YtmolmpgampmolaaGreat
set_option linter.unusedVariables false
set_option linter.unusedSimpArgs false
open Go.RowKit
theorem etb : ET Tryz.prog 29 5 1 1 (.int .u8 0) := ⟨Tryz.underlying29, info_parts (by kernel_rfl), rfl, by decide⟩
theorem convb {w : World} {B : Nat} {A : Option Addr} {n c : Nat} {l : List UInt8} (h : RB w B A n c l) :
    (convert 29 9 (.slice A n c)).run Tryz.prog w = .ok (.string ⟨l.toArray⟩) w := h.conv 29 5 Tryz.underlying29 Tryz.underlying5 _ Tryz.underlying9

theorem convb_grow {w : World} {A : Option Addr} {n c B : Nat} {l : List UInt8} (h : RB w B A n c l) (hB : B ≤ w.heap.size) : ∀ (d : Nat) (os : Array Obj),
    (convert 29 9 (.slice A n c)).run Tryz.prog (Go.Sort.grow (redrawn w d) os) = .ok (.string ⟨l.toArray⟩) (Go.Sort.grow (redrawn w d) os) := fun d os => convb (h.below ((below_regrown w d os).mono hB))


set_option maxHeartbeats 400000 in
/-- Both, in new memory. -/
theorem Join_any {A : Option Addr} {n c B : Nat} {l : List UInt8} {A' : Option Addr} {n' c' B' : Nat} {l' : List UInt8} (w : World) (h : RB w B A n c l) (h' : RB w B' A' n' c' l') (hn : n + n' < 140737488355328) (hB : B ≤ w.heap.size) (hB' : B' ≤ w.heap.size) :
    Calls Tryz.prog 68 #[.slice A n c, .slice A' n' c'] w fun e w' => ∃ A1 c1, e = .returned (.slice A1 (n + n') c1) ∧ OB w' w.heap.size A1 (n + n') c1 (l ++ l') ∧ Below w.heap.size w w' := by
  go_enter Tryz.func68, Tryz.ntmps68
  go_wp2_with (first
    | (at_builtin; refine wpList_appb_nil etb rfl (.tmp 6) (.tmp 7) rfl rfl rfl w.heap.size h (by omega) (Nat.le_refl _) ?_; intro A1 c1 w1 h1 hb1)
    | (at_builtin; refine wpList_appb etb rfl (.tmp 9) (.tmp 10) rfl rfl rfl w.heap.size h1 (h'.below (hb1.mono hB')) (by omega) hb1.size ?_; intro A2 c2 w2 h2 hb2 _ _))
  go_ret
  exact ⟨_, _, rfl, h2, hb1.trans hb2⟩



set_option maxHeartbeats 400000 in
/-- It writes over bytes of the call's own, and behind them: to nothing else. -/
theorem Spoil_any {A : Option Addr} {n c base : Nat} {l : List UInt8} (w : World) (h : OB w base A n c l) (hn : n < 140737488355328) (hB : base ≤ w.heap.size) :
    Calls Tryz.prog 9 #[.slice A n c] w fun e w' => e = .returned (.tuple #[]) ∧ Below base w w' ∧ w.grownBy w' (Value.slice A n c).ownBlock := by
  go_enter Tryz.func9, Tryz.ntmps9
  go_wp2_with fail
  go_loopw [2] (fun i wr => ∃ (k : Nat) (l' : List UInt8), k ≤ n ∧ i = .int .i64 k ∧ OB wr base A n c l' ∧ Below base w wr ∧ w.grownBy wr (Value.slice A n c).ownBlock) (fun i _ => n - (intOf i).toNat)
  case atStart => exact ⟨0, l, Nat.zero_le _, rfl, h, Below.refl _ _, World.grownBy.refl _ _⟩
  case round =>
    obtain ⟨k, l', hk, rfl, hown, hbel, hgr⟩ := hrel
    by_cases hlt : k < n
    · obtain ⟨g, rfl, hbg, hlg⟩ := hown.head (by omega)
      have hck := hown.cell hlt
      have hfr := hown.free k
      have hx := byte_lt (l'.getD k 0)
      generalize hxe : l'.getD k 0 = x at *
      clear h hxe
      go_wp2
      go_roundw
      case rel =>
        have R := hown.setv k (x ^^^ 90) (u8_xor_bytes x 90)
        exact ⟨k + 1, _, by omega, by go_num, R.1, hbel.setCell (p := ⟨g, k, none⟩) hbg _, World.grownBy.trans hgr R.2⟩
      case measure => simp [intOf]; omega
    · obtain rfl : k = n := by omega
      go_wp2_with (at_builtin; refine wpList_appb_one etb rfl (.tmp 17) (.tmp 18) rfl rfl rfl base hown 99 rfl (by omega) (Nat.le_trans hB hbel.size) ?_; intro A1 c1 w1 h1 hb1 hg1 hloc; obtain ⟨g1, rfl, hg1b, hg1l⟩ := h1.head (by omega); have hc1 := h1.cell (i := k) (by omega); have hf1 := h1.free k)
      go_end0
      refine ⟨rfl, (hbel.trans hb1).setCell (p := ⟨g1, k, none⟩) hg1b _, grown_setCell (World.grownBy.trans hgr hg1) ?_ _⟩
      rcases hloc with e | e
      · exact .inl e
      · right
        have e : g1 = wr.heap.size + 1 := by simpa [Value.ownBlock] using e
        have := hbel.size
        show w.heap.size ≤ g1
        omega

end Go.Proofs.YtmolmpgampmolaaGreat
/-
  Strings as lists of bytes: cuts, places, sums, under one name.
  Conditions: none.
-/
namespace Go.Proofs.YtmolmpgampmolaaGreat
set_option linter.unusedVariables false
set_option linter.unusedSimpArgs false
open Go.RowKit
/-- A list of bytes as a string. -/
def T (s : List UInt8) : ByteArray := ⟨s.toArray⟩
theorem T_inj {a b : List UInt8} (h : T a = T b) : a = b := by
  unfold T at h
  injection h with h
  simpa using h
theorem T_ne {a b : List UInt8} (h : a ≠ b) : T a ≠ T b := fun e => h (T_inj e)
theorem toList_loop (bs : ByteArray) : ∀ (d i : Nat) (r : List UInt8), bs.size - i = d → ByteArray.toList.loop bs i r = r.reverse ++ bs.data.toList.drop i := by
  intro d
  induction d with
  | zero =>
    intro i r h
    have h2 : bs.data.toList.length ≤ i := by show bs.data.size ≤ i; have : bs.size = bs.data.size := rfl; omega
    rw [ByteArray.toList.loop, if_neg (by omega), List.drop_of_length_le h2, List.append_nil]
  | succ d ih =>
    intro i r h
    have hi : i < bs.size := by omega
    have hi' : i < bs.data.toList.length := hi
    rw [ByteArray.toList.loop, if_pos hi, ih (i + 1) _ (by omega), List.drop_eq_getElem_cons hi', List.reverse_cons, List.append_assoc]
    congr 2
    rw [List.cons_append, List.nil_append]
    congr 1
    have h3 : bs.get! i = bs[i] := by simp [ByteArray.get!, getElem!_pos, hi]; rfl
    rw [h3]
    rfl
theorem T_toList (s : List UInt8) : (T s).toList = s := by
  have := toList_loop (T s) _ 0 [] rfl
  exact this.trans (by simp [T])
theorem T_size (s : List UInt8) : (T s).size = s.length := by show s.toArray.size = _; simp
theorem T_of (t : ByteArray) : ∃ s, t = T s := ⟨t.data.toList, by cases t; simp [T]⟩
theorem T_get (s : List UInt8) (k : Nat) (h : k < (T s).size) : (T s)[k]'h = s.getD k 0 := by
  have h' : k < s.length := by rw [T_size] at h; exact h
  show s.toArray[k] = _
  simp [List.getD, h']
theorem T_append (a b : List UInt8) : T a ++ T b = T (a ++ b) := by
  apply ByteArray.ext
  simp [T]
theorem T_extract (s : List UInt8) (i j : Nat) : (T s).extract i j = T ((s.take j).drop i) := by
  apply ByteArray.ext
  simp [T, List.extract_toArray, List.drop_take]
theorem run_T_at (s : List UInt8) (kd : IntKind) (z : Int) (k : Nat) (hz : z = (k : Int)) (hk : k < s.length) (w : World) :
    (Instr.index 9 (.string (T s)) (.int kd z)).run Tryz.prog w = .ok (.int .u8 ((s.getD k 0).toNat : Int)) w := by
  subst hz
  rw [run_index_string w _ _ kd _ Tryz.underlying9, dif_pos ⟨by omega, by rw [T_size]; exact Int.ofNat_lt.2 hk⟩]
  have e : ((k : Int)).toNat = k := by omega
  simp only [e, T_get]
theorem run_T_add (s t : List UInt8) (h : s.length + t.length ≤ 9223372036854775807) (w : World) : (Op.stringOp .add (T s) (T t)).run Tryz.prog w = .ok (.string (T (s ++ t))) w := by
  rw [run_string_add_sum w _ _ (by rw [T_size, T_size]; exact h), T_append]
/-- 's[i:j]' -/
theorem run_T_cut (s : List UInt8) (k1 k2 : IntKind) (z1 z2 : Int) (i j : Nat) (h1 : z1 = (i : Int)) (h2 : z2 = (j : Int)) (hij : i ≤ j) (hj : j ≤ s.length) (hs : s.length ≤ 9223372036854775807) (w : World) :
    (Instr.slice 9 (.string (T s)) (some (.int k1 z1)) (some (.int k2 z2)) none).run Tryz.prog w = .ok (.string (T ((s.take j).drop i))) w := by
  subst h1 h2
  have b1 : ∀ code, (Instr.sliceBound (.int k2 (j : Int)) (T s).size code).run Tryz.prog w = .ok j w := fun code => by
    rw [run_sliceBound w k2 _ _ code (by omega) (by rw [T_size]; omega)]; congr 1
  have b2 : ∀ code, (Instr.sliceBound (.int k1 (i : Int)) j code).run Tryz.prog w = .ok i w := fun code => by
    rw [run_sliceBound w k1 _ _ code (by omega) (by omega)]; congr 1
  simp [Instr.slice, run_underlying Tryz.underlying9, Instr.sliceBounds, b1, b2, T_extract, go_sem]
  intro h
  omega
/-- 's[:j]' -/
theorem run_T_head (s : List UInt8) (k2 : IntKind) (z2 : Int) (j : Nat) (h2 : z2 = (j : Int)) (hj : j ≤ s.length) (w : World) :
    (Instr.slice 9 (.string (T s)) none (some (.int k2 z2)) none).run Tryz.prog w = .ok (.string (T (s.take j))) w := by
  subst h2
  have b1 : ∀ code, (Instr.sliceBound (.int k2 (j : Int)) (T s).size code).run Tryz.prog w = .ok j w := fun code => by
    rw [run_sliceBound w k2 _ _ code (by omega) (by rw [T_size]; omega)]; congr 1
  simp [Instr.slice, run_underlying Tryz.underlying9, Instr.sliceBounds, b1, T_extract, go_sem]
/-- 's[i:]' -/
theorem run_T_rest (s : List UInt8) (k1 : IntKind) (z1 : Int) (i : Nat) (h1 : z1 = (i : Int)) (hi : i ≤ s.length) (w : World) :
    (Instr.slice 9 (.string (T s)) (some (.int k1 z1)) none none).run Tryz.prog w = .ok (.string (T (s.drop i))) w := by
  subst h1
  have b1 : ∀ code, (Instr.sliceBound (.int k1 (i : Int)) (T s).size code).run Tryz.prog w = .ok i w := fun code => by
    rw [run_sliceBound w k1 _ _ code (by omega) (by rw [T_size]; omega)]; congr 1
  have e : (T s).extract i (T s).size = T (s.drop i) := by rw [T_extract, T_size, List.take_length]
  simp [Instr.slice, run_underlying Tryz.underlying9, Instr.sliceBounds, b1, e, go_sem]
end Go.Proofs.YtmolmpgampmolaaGreat
/-
  A block that is known whole.
  Conditions: none.
-/
namespace Go.Proofs.YtmolmpgampmolaaGreat
set_option linter.unusedVariables false
set_option linter.unusedSimpArgs false
open Go.RowKit
def Blk (w : World) (g : Nat) (t : TypeId) (cs : Array Value) : Prop := w.heap[g]? = some (.cells cs t (0, 0))
section
variable {w w' : World} {g : Nat} {t : TypeId} {cs : Array Value}
theorem Blk.lt (h : Blk w g t cs) : g < w.heap.size := by
  rcases Nat.lt_or_ge g w.heap.size with hlt | hge
  · exact hlt
  · unfold Blk at h; rw [Array.getElem?_eq_none hge] at h; cases h
theorem Blk.cell (h : Blk w g t cs) (i : Nat) : w.cell? ⟨g, i, none⟩ = cs[i]? := cell_of_row w g i cs t (0, 0) h
theorem Blk.frozen (h : Blk w g t cs) (i : Nat) : w.frozen? ⟨g, i, none⟩ = false := by
  unfold Blk at h
  simp [World.frozen?, h]
theorem Blk.new (w : World) (t : TypeId) (cs : Array Value) : Blk (w.alloc (.cells cs t)) w.heap.size t cs := heap_alloc_new w _
theorem Blk.drew (h : Blk w g t cs) : Blk w.drew g t cs := h
theorem Blk.drewN (h : Blk w g t cs) (n : Nat) : Blk (w.drewN n) g t cs := h
theorem Blk.alloc (h : Blk w g t cs) (o : Obj) : Blk (w.alloc o) g t cs := (Below.heap_alloc w o g h.lt).trans h
theorem Blk.set_ (h : Blk w g t cs) (i : Nat) (u : Value) : Blk (w.setCell ⟨g, i, none⟩ u) g t (cs.setIfInBounds i u) := by
  unfold Blk at h ⊢
  simp [World.setCell, Array.getElem?_modify, h]
theorem Blk.far (h : Blk w g t cs) {p : Addr} (hp : g ≠ p.block) (u : Value) : Blk (w.setCell p u) g t cs := (Below.heap_setCell w p u g hp).trans h
theorem Blk.below {B : Nat} (h : Blk w g t cs) (hb : Below B w w') (hg : g < B) : Blk w' g t cs := (hb.block g hg).trans h
theorem Blk.later (h : Blk w g t cs) (hb : Below w.heap.size w w') : Blk w' g t cs := h.below hb h.lt
theorem Blk.grown {row : Option Nat} (h : Blk w g t cs) (hb : w.grownBy w' row) (hg : some g ≠ row) : Blk w' g t cs := (hb.block g h.lt hg).trans h
theorem Blk.ne_ {g' : Nat} {t' : TypeId} {cs' : Array Value} (h : Blk w g t cs) (h' : Blk w g' t' cs') (hne : t ≠ t') : g ≠ g' := by
  rintro rfl
  unfold Blk at h h'
  rw [h] at h'
  injection h' with h'
  injection h' with _ ht
  exact hne ht
theorem own_blk_ne {base : Nat} {e : TypeId} {size n : Nat} {v : Value} {xs : List Value} (h : w.ownsRow base e size v n xs) (hg : Blk w g t cs) (hne : e ≠ t) : v.ownBlock ≠ some g := by
  rcases h.2 with ⟨rfl, _⟩ | ⟨g', cap, cur, rfl, _, hh, _⟩
  · simp [Value.ownBlock]
  · intro he
    have : g' = g := by simpa [Value.ownBlock] using he
    subst this
    exact Blk.ne_ (t := e) hh hg hne rfl
theorem Blk.made {w1 : World} (hb : Below (w.alloc (.cells cs t)).heap.size (w.alloc (.cells cs t)) w1) : Blk w1 w.heap.size t cs := (Blk.new w t cs).later hb
theorem Blk.one {a : Value} (h : Blk w g t #[a]) : w.cell? ⟨g, 0, none⟩ = some a ∧ w.frozen? ⟨g, 0, none⟩ = false := ⟨h.cell 0, h.frozen 0⟩
theorem Blk.two {a b : Value} (h : Blk w g t #[a, b]) : w.cell? ⟨g, 0, none⟩ = some a ∧ w.cell? ⟨g, 1, none⟩ = some b ∧ (w.frozen? ⟨g, 0, none⟩ = false ∧ w.frozen? ⟨g, 1, none⟩ = false) := ⟨h.cell 0, h.cell 1, h.frozen 0, h.frozen 1⟩
theorem Blk.three {a b c : Value} (h : Blk w g t #[a, b, c]) : w.cell? ⟨g, 0, none⟩ = some a ∧ w.cell? ⟨g, 1, none⟩ = some b ∧ w.cell? ⟨g, 2, none⟩ = some c ∧ (w.frozen? ⟨g, 0, none⟩ = false ∧ w.frozen? ⟨g, 1, none⟩ = false ∧ w.frozen? ⟨g, 2, none⟩ = false) := ⟨h.cell 0, h.cell 1, h.cell 2, h.frozen 0, h.frozen 1, h.frozen 2⟩
/-- As regions that draw their order ask for them. -/
theorem Blk.three3 {a b c : Value} (h : Blk w g t #[a, b, c]) : ∀ (d : Nat) (os : Array Obj), (Sort.grow (redrawn w d) os).cell? ⟨g, 0, none⟩ = some a ∧ (Sort.grow (redrawn w d) os).cell? ⟨g, 1, none⟩ = some b ∧ (Sort.grow (redrawn w d) os).cell? ⟨g, 2, none⟩ = some c := fun d os => by
  have k := h.later (below_regrown w d os)
  exact ⟨k.cell 0, k.cell 1, k.cell 2⟩
theorem Blk.four {a b c d : Value} (h : Blk w g t #[a, b, c, d]) : (w.cell? ⟨g, 0, none⟩ = some a ∧ w.cell? ⟨g, 1, none⟩ = some b ∧ w.cell? ⟨g, 2, none⟩ = some c ∧ w.cell? ⟨g, 3, none⟩ = some d) ∧ (w.frozen? ⟨g, 0, none⟩ = false ∧ w.frozen? ⟨g, 1, none⟩ = false ∧ w.frozen? ⟨g, 2, none⟩ = false ∧ w.frozen? ⟨g, 3, none⟩ = false) := ⟨⟨h.cell 0, h.cell 1, h.cell 2, h.cell 3⟩, h.frozen 0, h.frozen 1, h.frozen 2, h.frozen 3⟩
theorem Blk.four4 {a b c d : Value} (h : Blk w g t #[a, b, c, d]) : ∀ (k : Nat) (os : Array Obj), (Sort.grow (redrawn w k) os).cell? ⟨g, 0, none⟩ = some a ∧ (Sort.grow (redrawn w k) os).cell? ⟨g, 1, none⟩ = some b ∧ (Sort.grow (redrawn w k) os).cell? ⟨g, 2, none⟩ = some c ∧ (Sort.grow (redrawn w k) os).cell? ⟨g, 3, none⟩ = some d := fun k os => by
  have h := h.later (below_regrown w k os)
  exact ⟨h.cell 0, h.cell 1, h.cell 2, h.cell 3⟩
theorem Blk.store3 {a b c : Value} (h : Blk w g t #[a, b, c]) (a' b' c' : Value) : Blk (((w.setCell ⟨g, 0, none⟩ a').setCell ⟨g, 1, none⟩ b').setCell ⟨g, 2, none⟩ c') g t #[a', b', c'] := ((h.set_ 0 a').set_ 1 b').set_ 2 c'
theorem Blk.store4 {a b c d : Value} (h : Blk w g t #[a, b, c, d]) (a' b' c' d' : Value) : Blk ((((w.setCell ⟨g, 0, none⟩ a').setCell ⟨g, 1, none⟩ b').setCell ⟨g, 2, none⟩ c').setCell ⟨g, 3, none⟩ d') g t #[a', b', c', d'] := (((h.set_ 0 a').set_ 1 b').set_ 2 c').set_ 3 d'
theorem below_set3 {B : Nat} (h : Below B w w') (hg : B ≤ g) (i j k : Nat) (a b c : Value) : Below B w (((w'.setCell ⟨g, i, none⟩ a).setCell ⟨g, j, none⟩ b).setCell ⟨g, k, none⟩ c) := ((h.setCell (p := ⟨g, i, none⟩) hg a).setCell (p := ⟨g, j, none⟩) hg b).setCell (p := ⟨g, k, none⟩) hg c
theorem Blk.keep {B : Nat} (h : Blk w g t cs) (hb : Below B w w') (hg : B ≤ g) : B ≤ g ∧ Below B w w' := ⟨hg, hb⟩
theorem OB.far {base : Nat} {A : Option Addr} {n c : Nat} {l : List UInt8} (h : OB w base A n c l) (hg : g < base) (i : Nat) (u : Value) : OB (w.setCell ⟨g, i, none⟩ u) base A n c l := by
  refine h.kept (row := some g) (grown_setCell (World.grownBy.refl _ _) (.inl rfl) u) ?_
  cases e : (Value.slice A n c).ownBlock with
  | none => exact .inl rfl
  | some k =>
    right
    intro he
    have := (h.lt k e).1
    injection he with he
    omega
theorem OV.far {base e size : Nat} {A : Option Addr} {n c : Nat} {l : List Value} (h : OV w base e size A n c l) (hg : g < base) (i : Nat) (u : Value) : OV (w.setCell ⟨g, i, none⟩ u) base e size A n c l := by
  refine h.kept (row := some g) (grown_setCell (World.grownBy.refl _ _) (.inl rfl) u) ?_
  cases e : (Value.slice A n c).ownBlock with
  | none => exact .inl rfl
  | some k =>
    right
    intro he
    have := (h.lt k e).1
    injection he with he
    omega
theorem RB.far {B : Nat} {A : Option Addr} {n c : Nat} {l : List UInt8} (h : RB w B A n c l) (hg : B ≤ g) (i : Nat) (u : Value) : RB (w.setCell ⟨g, i, none⟩ u) B A n c l :=
  h.keep fun q hq => World.cell?_setCell_other w ⟨g, i, none⟩ q u (fun e => by subst e; exact absurd hq (by show ¬ g < B; omega))
theorem OB.far3 {base : Nat} {A : Option Addr} {n c : Nat} {l : List UInt8} (h : OB w base A n c l) (hg : g < base) (i j k : Nat) (a b d : Value) : OB (((w.setCell ⟨g, i, none⟩ a).setCell ⟨g, j, none⟩ b).setCell ⟨g, k, none⟩ d) base A n c l := ((h.far hg i a).far hg j b).far hg k d
end
end Go.Proofs.YtmolmpgampmolaaGreat
/-
  Walks: types.kinds, of, and what is known of a type.
  Conditions: none.
-/
namespace Go.Proofs.YtmolmpgampmolaaGreat
set_option linter.unusedVariables false
set_option linter.unusedSimpArgs false
open Go.RowKit
/-- The cells of what is known of a type. -/
def kc (t : Int) : Array Value := #[.string (T (Ty.kd t).name), .int .i64 ((Ty.kd t).size : Int), .int .i64 ((Ty.kd t).bits : Int), .bool (Ty.kd t).sgn]
def kcells : Array Value := ((List.range 32).flatMap fun (t : Nat) => (kc (t : Int)).toList).toArray
theorem run_kind : ∀ (k : Nat) (_ : k < 32) (w : World), (Instr.index 133 (.agg kcells) (.int .i64 (k : Int))).run Tryz.prog w = .ok (.agg (kc (k : Int))) w
  | 0, _ => fun _ => by kernel_rfl
  | 1, _ => fun _ => by kernel_rfl
  | 2, _ => fun _ => by kernel_rfl
  | 3, _ => fun _ => by kernel_rfl
  | 4, _ => fun _ => by kernel_rfl
  | 5, _ => fun _ => by kernel_rfl
  | 6, _ => fun _ => by kernel_rfl
  | 7, _ => fun _ => by kernel_rfl
  | 8, _ => fun _ => by kernel_rfl
  | 9, _ => fun _ => by kernel_rfl
  | 10, _ => fun _ => by kernel_rfl
  | 11, _ => fun _ => by kernel_rfl
  | 12, _ => fun _ => by kernel_rfl
  | 13, _ => fun _ => by kernel_rfl
  | 14, _ => fun _ => by kernel_rfl
  | 15, _ => fun _ => by kernel_rfl
  | 16, _ => fun _ => by kernel_rfl
  | 17, _ => fun _ => by kernel_rfl
  | 18, _ => fun _ => by kernel_rfl
  | 19, _ => fun _ => by kernel_rfl
  | 20, _ => fun _ => by kernel_rfl
  | 21, _ => fun _ => by kernel_rfl
  | 22, _ => fun _ => by kernel_rfl
  | 23, _ => fun _ => by kernel_rfl
  | 24, _ => fun _ => by kernel_rfl
  | 25, _ => fun _ => by kernel_rfl
  | 26, _ => fun _ => by kernel_rfl
  | 27, _ => fun _ => by kernel_rfl
  | 28, _ => fun _ => by kernel_rfl
  | 29, _ => fun _ => by kernel_rfl
  | 30, _ => fun _ => by kernel_rfl
  | 31, _ => fun _ => by kernel_rfl
  | k + 32, h => absurd h (by omega)
theorem below_setRow {B : Nat} {a w : World} (h : Below B a w) {g : Nat} (hg : B ≤ g) (cs : Array Value) : Below B a (w.setRow g cs) :=
  ⟨h.os, h.tape, h.output, by rw [size_setRow]; exact h.size, fun b hb => (setRow_other w g b cs (by omega)).trans (h.block b hb)⟩
set_option maxRecDepth 100000 in
set_option maxHeartbeats 4000000 in
theorem kinds_any (w : World) : Calls Tryz.prog 118 #[] w fun e w' => e = .returned (.agg kcells) ∧ Below w.heap.size w w' := by
  go_enter Tryz.func118, Tryz.ntmps118
  go_wp2_with (refine wpList_store_row rfl 133 (.tmp 0) (.tmp 12) rfl w.heap.size kcells (by kernel_rfl) (by kernel_rfl) 133 _ (heap_alloc_new w _) (by kernel_rfl) (by kernel_rfl) (by kernel_rfl) ?_)
  exact bodyPost_ret (v := .agg kcells) (results_cell_row Tryz.results118 _ _ w.heap.size 133 kcells (0, 0) _ (by kernel_rfl) (setRow_heap _ _ _ _ _ _ (heap_alloc_new w _)) Tryz.underlying133 rfl (by kernel_rfl)) rfl ⟨rfl, below_setRow (alloc_one w _) (Nat.le_refl _) _⟩
end Go.Proofs.YtmolmpgampmolaaGreat
/-
  Walks: what is known of a type.
  Conditions: none.
-/
namespace Go.Proofs.YtmolmpgampmolaaGreat
set_option linter.unusedVariables false
set_option linter.unusedSimpArgs false
open Go.RowKit
set_option maxRecDepth 100000 in
set_option maxHeartbeats 4000000 in
theorem of_any (t : Int) (w : World) : Calls Tryz.prog 75 #[.int .i64 t] w fun e w' => e = .returned (.agg #[.string (T (Ty.kd t).name), .int .i64 ((Ty.kd t).size : Int), .int .i64 ((Ty.kd t).bits : Int), .bool (Ty.kd t).sgn]) ∧ Below w.heap.size w w' := by
  by_cases h : 0 ≤ t ∧ t < 32
  · obtain ⟨h1, h2⟩ := h
    obtain ⟨k, rfl⟩ : ∃ k : Nat, t = (k : Int) := ⟨t.toNat, by omega⟩
    have hr := run_kind k (by omega)
    unfold kc at hr
    generalize (Ty.kd (k : Int)).name = nm at *
    generalize (Ty.kd (k : Int)).size = sz at *
    generalize (Ty.kd (k : Int)).bits = bt at *
    generalize (Ty.kd (k : Int)).sgn = sg at *
    generalize hkc : kcells = K at *
    have C := Lib.hid (fun w => kinds_any w)
    rw [hkc] at C
    clear hkc
    go_enter Tryz.func75, Tryz.ntmps75
    go_wp2_with fail
    refine (C.out _).mono ?_
    rintro e w1 ⟨rfl, b1⟩
    have KB := Blk.made b1
    have F := KB.four
    have hlt := KB.lt
    go_wp2_with fail
    have K4 := KB.store4 (.string (T nm)) (.int .i64 (sz : Int)) (.int .i64 (bt : Int)) (.bool sg)
    have F4 := K4.four.1
    exact bodyPost_ret (v := .agg #[.string (T nm), .int .i64 (sz : Int), .int .i64 (bt : Int), .bool sg]) (by simp [results, Tryz.results75, go_sem, F4]) rfl ⟨rfl, ((((below_step (alloc_one _ _) b1 (Nat.le_refl _)).setCell (p := ⟨w.heap.size, 0, none⟩) (Nat.le_refl _) _).setCell (p := ⟨w.heap.size, 1, none⟩) (Nat.le_refl _) _).setCell (p := ⟨w.heap.size, 2, none⟩) (Nat.le_refl _) _).setCell (p := ⟨w.heap.size, 3, none⟩) (Nat.le_refl _) _⟩
  · have e : Ty.kd t = Ty.kd0 := Ty.kd_none (by
      intro hm
      unfold Ty.nums at hm
      simp only [List.mem_cons, List.not_mem_nil, or_false] at hm
      omega)
    rw [e]
    rcases (show t < 0 ∨ (0 ≤ t ∧ 32 ≤ t) by omega) with h | ⟨h1, h2⟩
    all_goals
      clear e
      go_enter Tryz.func75, Tryz.ntmps75
      go_wp2_with fail
      exact bodyPost_ret (v := .agg #[.string (T []), .int .i64 0, .int .i64 0, .bool false]) (by simp [results, Tryz.results75, go_sem]; rfl) rfl ⟨rfl, alloc_one _ _⟩
theorem TSize_any (t : Int) (w : World) : Calls Tryz.prog 121 #[.int .i64 t] w fun e w' => e = .returned (.int .i64 ((Ty.kd t).size : Int)) ∧ Below w.heap.size w w' := by
  have C := Lib.hid (of_any t w)
  generalize (Ty.kd t).name = nm at *
  generalize (Ty.kd t).size = sz at *
  generalize (Ty.kd t).bits = bt at *
  generalize (Ty.kd t).sgn = sg at *
  have hfd : ∀ w : World, (Instr.field 107 (.agg #[.string (T nm), .int .i64 (sz : Int), .int .i64 (bt : Int), .bool sg]) 1).run Tryz.prog w = .ok (.int .i64 (sz : Int)) w := fun _ => by kernel_rfl
  go_enter Tryz.func121, Tryz.ntmps121
  go_wp2_with fail
  refine (C.out).mono ?_
  rintro e w1 ⟨rfl, b1⟩
  go_wp2_with fail
  go_ret
  exact ⟨rfl, b1⟩
theorem TBits_any (t : Int) (w : World) : Calls Tryz.prog 78 #[.int .i64 t] w fun e w' => e = .returned (.int .i64 ((Ty.kd t).bits : Int)) ∧ Below w.heap.size w w' := by
  have C := Lib.hid (of_any t w)
  generalize (Ty.kd t).name = nm at *
  generalize (Ty.kd t).size = sz at *
  generalize (Ty.kd t).bits = bt at *
  generalize (Ty.kd t).sgn = sg at *
  have hfd : ∀ w : World, (Instr.field 107 (.agg #[.string (T nm), .int .i64 (sz : Int), .int .i64 (bt : Int), .bool sg]) 2).run Tryz.prog w = .ok (.int .i64 (bt : Int)) w := fun _ => by kernel_rfl
  go_enter Tryz.func78, Tryz.ntmps78
  go_wp2_with fail
  refine (C.out).mono ?_
  rintro e w1 ⟨rfl, b1⟩
  go_wp2_with fail
  go_ret
  exact ⟨rfl, b1⟩
theorem TSigned_any (t : Int) (w : World) : Calls Tryz.prog 119 #[.int .i64 t] w fun e w' => e = .returned (.bool (Ty.kd t).sgn) ∧ Below w.heap.size w w' := by
  have C := Lib.hid (of_any t w)
  generalize (Ty.kd t).name = nm at *
  generalize (Ty.kd t).size = sz at *
  generalize (Ty.kd t).bits = bt at *
  generalize (Ty.kd t).sgn = sg at *
  have hfd : ∀ w : World, (Instr.field 107 (.agg #[.string (T nm), .int .i64 (sz : Int), .int .i64 (bt : Int), .bool sg]) 3).run Tryz.prog w = .ok (.bool sg) w := fun _ => by kernel_rfl
  go_enter Tryz.func119, Tryz.ntmps119
  go_wp2_with fail
  refine (C.out).mono ?_
  rintro e w1 ⟨rfl, b1⟩
  go_wp2_with fail
  go_ret
  exact ⟨rfl, b1⟩
theorem TName_any (t : Int) (w : World) : Calls Tryz.prog 33 #[.int .i64 t] w fun e w' => e = .returned (.string (T (Ty.kd t).name)) ∧ Below w.heap.size w w' := by
  have C := Lib.hid (of_any t w)
  generalize (Ty.kd t).name = nm at *
  generalize (Ty.kd t).size = sz at *
  generalize (Ty.kd t).bits = bt at *
  generalize (Ty.kd t).sgn = sg at *
  have hfd : ∀ w : World, (Instr.field 107 (.agg #[.string (T nm), .int .i64 (sz : Int), .int .i64 (bt : Int), .bool sg]) 0).run Tryz.prog w = .ok (.string (T nm)) w := fun _ => by kernel_rfl
  go_enter Tryz.func33, Tryz.ntmps33
  go_wp2_with fail
  refine (C.out).mono ?_
  rintro e w1 ⟨rfl, b1⟩
  go_wp2_with fail
  go_ret
  exact ⟨rfl, b1⟩
theorem kd_named (t : Int) : (Ty.kd t).name ≠ [] ∨ Ty.kd t = Ty.kd0 := by
  rcases Ty.kd_cases t with h | ⟨_, h⟩
  · left
    rcases h with rfl | rfl | rfl | rfl | rfl | rfl | rfl | rfl | rfl | rfl | rfl <;> decide
  · exact .inr h
/-- Is the type known? -/
def knownB (t : Int) : Bool := !(Ty.kd t).name.isEmpty
set_option maxHeartbeats 1000000 in
theorem TKnown_any (t : Int) (w : World) : Calls Tryz.prog 70 #[.int .i64 t] w fun e w' => e = .returned (.bool (knownB t)) ∧ Below w.heap.size w w' := by
  have C := Lib.hid (of_any t w)
  unfold knownB
  rcases kd_named t with h | h
  · generalize (Ty.kd t).name = nm at *
    generalize (Ty.kd t).size = sz at *
    generalize (Ty.kd t).bits = bt at *
    generalize (Ty.kd t).sgn = sg at *
    have h1 : nm.isEmpty = false := by simpa using h
    rw [h1]
    have h2 := T_toList nm
    have h3 : T nm ≠ T [] := T_ne h
    clear h
    go_enter Tryz.func70, Tryz.ntmps70
    go_wp2_with fail
    refine (C.out).mono ?_
    rintro e w1 ⟨rfl, b1⟩
    go_wp2_with fail
    go_ret
    exact ⟨rfl, b1⟩
  · rw [h] at C ⊢
    unfold Ty.kd0 at C ⊢
    dsimp only at C ⊢
    rw [show T [] = (⟨#[]⟩ : ByteArray) from rfl] at C
    go_enter Tryz.func70, Tryz.ntmps70
    go_wp2_with fail
    refine (C.out).mono ?_
    rintro e w1 ⟨rfl, b1⟩
    go_wp2_with fail
    go_ret
    exact ⟨rfl, b1⟩
end Go.Proofs.YtmolmpgampmolaaGreat
/-
  Walks: types.Limits, ByName.
  Conditions: none.
-/
namespace Go.Proofs.YtmolmpgampmolaaGreat
set_option linter.unusedVariables false
set_option linter.unusedSimpArgs false
open Go.RowKit
def LimPost (p : Int × Int × Bool) (w : World) (e : Ending) (w' : World) : Prop := e = .returned (.tuple #[.int .i64 p.1, .int .i64 p.2.1, .bool p.2.2]) ∧ Below w.heap.size w w'
theorem lim_mk {p : Int × Int × Bool} {w w' : World} {a b : Int} {x : Bool} (h : p = (a, b, x)) (hb : Below w.heap.size w w') : LimPost p w (.returned (.tuple #[.int .i64 a, .int .i64 b, .bool x])) w' := by
  subst h; exact ⟨rfl, hb⟩
set_option maxRecDepth 100000 in
set_option maxHeartbeats 4000000 in
theorem Limits_any (t : Int) (w : World) : Calls Tryz.prog 30 #[.int .i64 t] w (LimPost (Ty.limS t) w) := by
  have C := of_any t w
  have hl : Ty.limS t = if (Ty.kd t).bits = 0 then (0, 0, false) else if (Ty.kd t).sgn = true then (-((2 ^ ((Ty.kd t).bits - 1) : Nat) : Int), ((2 ^ ((Ty.kd t).bits - 1) : Nat) : Int) - 1, true) else (0, ((2 ^ (Ty.kd t).bits : Nat) : Int) - 1, true) := rfl
  have hc : (Ty.kd t).bits = 0 ∨ ((Ty.kd t).sgn = true ∧ ((Ty.kd t).bits = 8 ∨ (Ty.kd t).bits = 16 ∨ (Ty.kd t).bits = 32 ∨ (Ty.kd t).bits = 64)) ∨ ((Ty.kd t).sgn = false ∧ ((Ty.kd t).bits = 1 ∨ (Ty.kd t).bits = 8 ∨ (Ty.kd t).bits = 16 ∨ (Ty.kd t).bits = 32)) := by
    rcases Ty.kd_cases t with h | ⟨_, h⟩
    · rcases h with rfl | rfl | rfl | rfl | rfl | rfl | rfl | rfl | rfl | rfl | rfl <;> decide
    · rw [h]; exact .inl rfl
  generalize (Ty.kd t).name = nm at *
  generalize (Ty.kd t).size = sz at *
  generalize (Ty.kd t).bits = bt at *
  generalize (Ty.kd t).sgn = sg at *
  rcases hc with rfl | ⟨rfl, rfl | rfl | rfl | rfl⟩ | ⟨rfl, rfl | rfl | rfl | rfl⟩
  all_goals
    have HL := Lib.hid hl
    clear hl
    replace C := Lib.hid C
    go_enter Tryz.func30, Tryz.ntmps30
    go_wp2_with fail
    refine (C.out).mono ?_
    rintro e w1 ⟨rfl, b1⟩
    go_wp2_with fail
  all_goals first
    | (go_ret3; exact lim_mk (by rw [HL.out]; rfl) (b1.alloc b1.size _))
    | (go_quiet (fail); go_wp2_with fail; go_ret3; exact lim_mk (by rw [HL.out]; rfl) (below_drewN (b1.alloc b1.size _) _))
/-- The type of a name. -/
def nameS (s : List UInt8) : Int × Bool := if s = [] then (0, false) else match Ty.nums.find? (fun t => (Ty.kd t).name == s) with | some t => (t, true) | none => (0, false)
/-- No type below k has the name. -/
def NoName (s : List UInt8) (k : Nat) : Prop := s = [] ∨ ∀ j : Nat, j < k → (Ty.kd (j : Int)).name ≠ s
theorem nameS_none {s : List UInt8} (h : NoName s 32) : nameS s = (0, false) := by
  unfold nameS
  rcases h with rfl | h
  · rfl
  · by_cases hs : s = []
    · rw [if_pos hs]
    · rw [if_neg hs]
      have : Ty.nums.find? (fun t => (Ty.kd t).name == s) = none := by
        rw [List.find?_eq_none]
        intro t ht
        have h1 : ∃ j : Nat, j < 32 ∧ t = (j : Int) := by
          unfold Ty.nums at ht
          simp only [List.mem_cons, List.not_mem_nil, or_false] at ht
          exact ⟨t.toNat, by omega, by omega⟩
        obtain ⟨j, hj, rfl⟩ := h1
        simpa using h j hj
      rw [this]
theorem nameS_some {s : List UInt8} {k : Nat} (hs : s ≠ []) (h : NoName s k) (hk : k < 32) (he : (Ty.kd (k : Int)).name = s) : nameS s = ((k : Int), true) := by
  have h := h.resolve_left hs
  unfold nameS
  rw [if_neg hs]
  have hm : (k : Int) ∈ Ty.nums := by
    by_cases hm : (k : Int) ∈ Ty.nums
    · exact hm
    · rw [Ty.kd_none hm] at he
      exact absurd he.symm hs
  have : Ty.nums.find? (fun t => (Ty.kd t).name == s) = some (k : Int) := by
    have hall : ∀ t ∈ Ty.nums, t < (k : Int) → ((Ty.kd t).name == s) = false := fun t ht hlt => by
      have h0 : 0 ≤ t := by
        unfold Ty.nums at ht
        simp only [List.mem_cons, List.not_mem_nil, or_false] at ht
        omega
      have := h t.toNat (by omega)
      rw [Int.toNat_of_nonneg h0] at this
      simpa using this
    have hk' : ((Ty.kd (k : Int)).name == s) = true := by simpa using he
    unfold Ty.nums at *
    simp only [List.mem_cons, List.not_mem_nil, or_false] at hm
    simp only [List.mem_cons, List.not_mem_nil, or_false, forall_eq_or_imp, forall_eq] at hall
    obtain ⟨a1, a2, a3, a4, a5, a6, a7, a8, a9, a10, a11⟩ := hall
    rcases hm with e | e | e | e | e | e | e | e | e | e | e
    all_goals
      rw [e] at a1 a2 a3 a4 a5 a6 a7 a8 a9 a10 a11 hk' ⊢
      simp [List.find?_cons, hk', a1, a2, a3, a4, a5, a6, a7, a8, a9, a10]
  rw [this]
set_option maxRecDepth 100000 in
set_option maxHeartbeats 4000000 in
theorem ByName_any (s : List UInt8) (w : World) : Calls Tryz.prog 97 #[.string (T s)] w fun e w' => e = .returned (.tuple #[.int .i64 (nameS s).1, .bool (nameS s).2]) ∧ Below w.heap.size w w' := by
  have HK := Lib.hid run_kind
  have C := Lib.hid (kinds_any w)
  generalize kcells = K at *
  go_enter Tryz.func97, Tryz.ntmps97
  go_wp2_with fail
  refine (C.out).mono ?_
  rintro e w1 ⟨rfl, b1⟩
  go_wp2_with fail
  go_loopw [7] (fun i wr => ∃ k : Nat, k ≤ 32 ∧ i = .int .i64 k ∧ NoName s k ∧ Below w.heap.size w wr) (fun i _ => 32 - (intOf i).toNat)
  case atStart => exact ⟨0, by omega, rfl, .inr fun j hj => absurd hj (by omega), b1⟩
  case round =>
    clear b1
    obtain ⟨k, hk, rfl, hno, bb⟩ := hrel
    have HN := Lib.hid hno; clear hno
    by_cases hlt : k < 32
    · have hr := fun w => HK.out k hlt w
      unfold kc at hr
      have hnx : (Ty.kd (k : Int)).name = s → s ≠ [] → nameS s = ((k : Int), true) := fun h1 h2 => nameS_some h2 HN.out hlt h1
      have hnn : (Ty.kd (k : Int)).name ≠ s ∨ s = [] → NoName s (k + 1) := fun h => by
        rcases h with h | h
        · rcases HN.out with h2 | h2
          · exact .inl h2
          · refine .inr fun j hj => ?_
            rcases Nat.lt_or_ge j k with h3 | h3
            · exact h2 j h3
            · obtain rfl : j = k := by omega
              exact h
        · exact .inl h
      generalize (Ty.kd (k : Int)).name = nm at *
      generalize (Ty.kd (k : Int)).size = sz at *
      generalize (Ty.kd (k : Int)).bits = bt at *
      generalize (Ty.kd (k : Int)).sgn = sg at *
      have HNX := Lib.hid hnx; have HNN := Lib.hid hnn
      clear hnx hnn
      have e1 := T_toList s
      have e2 := T_toList nm
      by_cases h1 : nm = s
      · subst h1
        by_cases h2 : nm = []
        · have HNN2 := Lib.hid (HNN.out (.inr h2))
          subst h2
          go_wp2_with fail
          go_roundw
          case rel => exact ⟨k + 1, by omega, by go_num, HNN2.out, bb.alloc bb.size _⟩
          case measure => simp [intOf] <;> omega
        · have HR := Lib.hid (HNX.out rfl h2)
          have h3 : (nm == []) = false := by simpa using h2
          have h4 : nm.isEmpty = false := by simpa using h2
          clear h2
          go_wp2_with fail
          go_ret2
          exact ⟨by rw [HR.out]; rfl, bb.alloc bb.size _⟩
      · have HNN2 := Lib.hid (HNN.out (.inl h1))
        have h3 : (nm == s) = false := by simpa using h1
        clear h1
        go_wp2_with fail
        go_roundw
        case rel => exact ⟨k + 1, by omega, by go_num, HNN2.out, bb.alloc bb.size _⟩
        case measure => simp [intOf] <;> omega
    · obtain rfl : k = 32 := by omega
      have HR := Lib.hid (nameS_none HN.out)
      go_wp2_with fail
      go_ret2
      exact ⟨by rw [HR.out]; rfl, bb⟩
end Go.Proofs.YtmolmpgampmolaaGreat
/-
  Layer 17 as plain functions: a text's entries, and an entry's text.
  Conditions: none.
-/
namespace Go.Proofs.YtmolmpgampmolaaGreat.Ed
set_option linter.unusedVariables false
set_option linter.unusedSimpArgs false
open Lx Ent
/-- Where a reader stands, and what is wrong. -/
structure R where
  pos : Nat
  err : Int
def nextS (l : List Tk) (s : R) : Option Tk := if s.err ≠ 0 ∨ l.length ≤ s.pos then none else some (l.getD s.pos tk0)
def hitB (t : Tk) (k : Int) (x : List UInt8) : Bool := t.kind == k && (x.isEmpty || t.text == x)
/-- The next token is of a kind, and has a text (empty: any). -/
def isS (l : List Tk) (s : R) (k : Int) (x : List UInt8) : Bool := match nextS l s with | none => false | some t => hitB t k x
def stepS (s : R) : R := ⟨s.pos + 1, s.err⟩
def failS (s : R) (e : Int) : R := if s.err = 0 then ⟨s.pos, e⟩ else s
def takeS (l : List Tk) (s : R) (k : Int) (x : List UInt8) : R := if isS l s k x = true then stepS s else s
def needR (l : List Tk) (s : R) (k : Int) (x : List UInt8) : R := if isS l s k x = true then stepS s else failS s 12
def needT (l : List Tk) (s : R) (k : Int) : Tk := if isS l s k [] = true then l.getD s.pos tk0 else tk0
/-- A small number. -/
def cntV (n : Int) : Int := if n < 0 ∨ 65536 < n then -1 else n
def kindT (l : List Tk) (s : R) : Int := if isS l s 1 [] = true then (if (nameS (l.getD s.pos tk0).text).2 = true then (nameS (l.getD s.pos tk0).text).1 else 0) else 0
def kindR (l : List Tk) (s : R) : R := if isS l s 1 [] = true then (if (nameS (l.getD s.pos tk0).text).2 = true then stepS s else failS s 15) else failS s 12
/-- The word of rights. -/
def wordS (a : Int) : List UInt8 := if a = 1 then [99, 111, 110, 115, 116] else if a = 2 then [114, 111] else if a = 3 then [119, 111] else [114, 119]
def rightsT (l : List Tk) (s : R) : Int := if isS l s 1 (wordS 1) = true then 1 else if isS l s 1 (wordS 2) = true then 2 else if isS l s 1 (wordS 3) = true then 3 else if isS l s 1 (wordS 4) = true then 4 else 0
def rightsR (l : List Tk) (s : R) : R := if rightsT l s = 0 then failS s 12 else stepS s
/-- Up to the type. -/
structure Hd where
  ix : Int
  sb : Int
  nm : List UInt8
  ty : Int
  st : R
def headS (l : List Tk) (s : R) : Hd :=
  let s1 := needR l s 3 []
  let s2 := needR l s1 5 [58]
  let s3 := needR l s2 2 []
  let s4 := needR l s3 1 []
  ⟨(needT l s 3).n, cntV (needT l s2 2).n, (needT l s3 1).text, kindT l s4, kindR l s4⟩
/-- The size, of a type that has no numbers. -/
def maxT (l : List Tk) (s : R) : Int := cntV (needT l (needR l s 5 [91]) 2).n
def maxR (l : List Tk) (s : R) : R := needR l (needR l (needR l s 5 [91]) 2 []) 5 [93]
/-- Two numbers. -/
def loT (l : List Tk) (s : R) : Int := (needT l s 2).n
def hiT (l : List Tk) (s : R) : Int := (needT l (needR l (needR l s 2 []) 5 [46, 46]) 2).n
def rngR (l : List Tk) (s : R) : R := needR l (needR l (needR l s 2 []) 5 [46, 46]) 2 []
/-- The value's text, up to the end. -/
def valT (l : List Tk) (s : R) (k : Int) : List UInt8 := (needT l (needR l s 5 [61]) k).text
def valR (l : List Tk) (s : R) (k : Int) : R := needR l (needR l (needR l s 5 [61]) k []) 5 [59]
def numB (t : Int) : Bool := (Ty.limS t).2.2
/-- Behind the rights and the flags. -/
def sizR (l : List Tk) (s : R) : R := if numB (headS l s).ty = true then (headS l s).st else maxR l (headS l s).st
def accT (l : List Tk) (s : R) : Int := rightsT l (sizR l s)
def accR (l : List Tk) (s : R) : R := rightsR l (sizR l s)
def mapT (l : List Tk) (s : R) : Bool := isS l (accR l s) 1 [109, 97, 112]
def mapR (l : List Tk) (s : R) : R := takeS l (accR l s) 1 [109, 97, 112]
def stoT (l : List Tk) (s : R) : Bool := isS l (mapR l s) 1 [115, 116, 111, 114, 101]
def stoR (l : List Tk) (s : R) : R := takeS l (mapR l s) 1 [115, 116, 111, 114, 101]
def inB (l : List Tk) (s : R) : Bool := numB (headS l s).ty && isS l (stoR l s) 1 [105, 110]
def limR (l : List Tk) (s : R) : R := if inB l s = true then rngR l (stepS (stoR l s)) else stoR l s
/-- An entry, without its value. -/
def entE (l : List Tk) (s : R) : En :=
  ⟨(headS l s).ix, (headS l s).sb, (headS l s).nm, (headS l s).ty, accT l s, mapT l s, stoT l s, if numB (headS l s).ty = true then 0 else maxT l (headS l s).st,
    if inB l s = true then loT l (stepS (stoR l s)) else (Ty.limS (headS l s).ty).1, if inB l s = true then hiT l (stepS (stoR l s)) else (Ty.limS (headS l s).ty).2.1, []⟩
def entK (l : List Tk) (s : R) : Int := if numB (headS l s).ty = true then 2 else 4
def entV (l : List Tk) (s : R) : List UInt8 := valT l (limR l s) (entK l s)
def entR (l : List Tk) (s : R) : R := valR l (limR l s) (entK l s)
/-- What is wrong of an entry that was read, behind others. -/
def finS (out : List En) (e : En) (v : List UInt8) : Int :=
  if (Ty.parseS e.type v).2 ≠ 0 then (Ty.parseS e.type v).2
  else if rightS { e with dflt := (Ty.parseS e.type v).1 } ≠ 0 then rightS { e with dflt := (Ty.parseS e.type v).1 }
  else if out.length = 96 then 3
  else if 0 < out.length ∧ befB (out.getD (out.length - 1) Dc.en0) e = false then 16 else 0
def placeS (l : List Tk) (n : Nat) (p : Nat) : Nat := if p < l.length then (l.getD p tk0).pl else n
/-- Entries of tokens from a place on, behind others; n: the text's length. -/
def parF (l : List Tk) (n : Nat) : Nat → Nat → List En → List En × Int × Nat
  | 0, _, out => (out, 0, 0)
  | k + 1, p, out => if l.length ≤ p then (out, 0, 0)
      else if (entR l ⟨p, 0⟩).err ≠ 0 then ([], (entR l ⟨p, 0⟩).err, placeS l n (entR l ⟨p, 0⟩).pos)
      else if finS out (entE l ⟨p, 0⟩) (entV l ⟨p, 0⟩) ≠ 0 then ([], finS out (entE l ⟨p, 0⟩) (entV l ⟨p, 0⟩), placeS l n p)
      else parF l n k (entR l ⟨p, 0⟩).pos (out ++ [{ entE l ⟨p, 0⟩ with dflt := (Ty.parseS (entE l ⟨p, 0⟩).type (entV l ⟨p, 0⟩)).1 }])
def parseS (s : List UInt8) : List En × Int × Nat := if (scanS s).2.1 ≠ 0 then ([], (scanS s).2.1, (scanS s).2.2) else parF (scanS s).1 s.length ((scanS s).1.length + 1) 0 []
/-- An entry as text. -/
def rangeS (e : En) : List UInt8 := if (Ty.limS e.type).1 ≠ e.low ∨ (Ty.limS e.type).2.1 ≠ e.high then [32, 105, 110, 32] ++ Ty.numT e.low ++ [46, 46] ++ Ty.numT e.high else []
def lineT (e : En) : List UInt8 :=
  [48, 120] ++ Oct.hexS [UInt8.ofNat (e.index.toNat / 256), UInt8.ofNat (e.index.toNat % 256)] ++ [58] ++ Ty.numT e.sub ++ [32] ++ e.name ++ [32] ++ (Ty.kd e.type).name ++ (if numB e.type = true then [] else [91] ++ Ty.numT e.max ++ [93]) ++ [32] ++ wordS e.access
    ++ (if e.map = true then [32, 109, 97, 112] else []) ++ (if e.store = true then [32, 115, 116, 111, 114, 101] else []) ++ rangeS e ++ [32, 61, 32] ++ (Ty.showS e.type e.dflt).1 ++ [59]
def lineS (e : En) : List UInt8 × Int := if rightS e ≠ 0 then ([], rightS e) else (lineT e, 0)
def allT (l : List En) : List UInt8 := l.flatMap fun e => (lineS e).1 ++ [10]
def printS (l : List En) : List UInt8 × Int × Nat := if (Dc.newS l).1 ≠ 0 then ([], (Dc.newS l).1, (Dc.newS l).2) else if 8192 < (allT l).length then ([], 3, 0) else (allT l, 0, 0)

/-! ### plain laws -/
theorem is_none {l : List Tk} {s : R} {k : Int} {x : List UInt8} (h : nextS l s = none) : isS l s k x = false := by unfold isS; rw [h]
theorem is_some {l : List Tk} {s : R} {k : Int} {x : List UInt8} {t : Tk} (h : nextS l s = some t) : isS l s k x = hitB t k x := by unfold isS; rw [h]
theorem next_at {l : List Tk} {s : R} {t : Tk} (h : nextS l s = some t) : t = l.getD s.pos tk0 ∧ s.err = 0 ∧ s.pos < l.length := by
  unfold nextS at h
  split at h
  · cases h
  · rename_i h1
    cases h
    refine ⟨rfl, ?_, ?_⟩
    · exact Classical.byContradiction fun e => h1 (.inl e)
    · exact Nat.lt_of_not_le fun e => h1 (.inr e)
theorem is_lt {l : List Tk} {s : R} {k : Int} {x : List UInt8} (h : isS l s k x = true) : s.pos < l.length ∧ s.err = 0 := by
  cases hn : nextS l s with
  | none => rw [is_none hn] at h; cases h
  | some t => exact ⟨(next_at hn).2.2, (next_at hn).2.1⟩
theorem fail_pos (s : R) (e : Int) : (failS s e).pos = s.pos := by unfold failS; split <;> rfl
theorem fail_err {s : R} {e : Int} (he : e ≠ 0) : (failS s e).err ≠ 0 := by unfold failS; split <;> assumption
theorem need_pos {l : List Tk} {s : R} {k : Int} {x : List UInt8} (h : s.pos ≤ l.length) : s.pos ≤ (needR l s k x).pos ∧ (needR l s k x).pos ≤ l.length := by
  unfold needR
  split
  · rename_i h1
    have := (is_lt h1).1
    exact ⟨Nat.le_succ _, this⟩
  · rw [fail_pos]; omega
end Go.Proofs.YtmolmpgampmolaaGreat.Ed
