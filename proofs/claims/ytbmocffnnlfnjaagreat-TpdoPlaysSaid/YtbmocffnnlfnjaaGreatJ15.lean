/-
  Texts joined: FrmPure, FrmMem, TpdSend, TpdOps, TpdPulse.
  Conditions: none.
-/
import Derived.Test.YtbmocffnnlfnjaaGreatJ01
import Derived.Test.YtbmocffnnlfnjaaGreatJ04
import Derived.Test.YtbmocffnnlfnjaaGreatJ05
import Derived.Test.YtbmocffnnlfnjaaGreatJ13
import Derived.Test.YtbmocffnnlfnjaaGreatJ14
import Derived.Test.YtbmocffnnlfnjaaGreatProg
/-
  Layer 10 as plain functions: frames, their texts, their order.
  Conditions: none.
-/
namespace Go.Proofs.YtbmocffnnlfnjaaGreat.Can
set_option linter.unusedVariables false
set_option linter.unusedSimpArgs false
open Oct
structure Fr where
  id : Int
  rem : Bool
  data : List UInt8
def zero : Fr := ⟨0, false, []⟩
def checkN (id : Int) (r : Bool) (n : Nat) : Int := if id < 0 ∨ 2047 < id then 9 else if 8 < n then 3 else if r = true ∧ 0 < n then 4 else 0
def check (f : Fr) : Int := checkN f.id f.rem f.data.length
def beforeN (i : Int) (r : Bool) (i' : Int) (r' : Bool) : Bool := decide (i < i') || (decide (i = i') && !r && r')
def before (a b : Fr) : Bool := beforeN a.id a.rem b.id b.rem
def sameB (a b : Fr) : Bool := decide (a.id = b.id) && (a.rem == b.rem) && (a.data == b.data)
theorem checkN_lt {i : Int} {r : Bool} {n : Nat} (h : checkN i r n = 0) : 0 ≤ i ∧ i ≤ 2047 ∧ n ≤ 8 ∧ (r = true → n = 0) := by
  unfold checkN at h
  split at h
  · cases h
  · split at h
    · cases h
    · split at h
      · cases h
      · rename_i h1 h2 h3
        refine ⟨by omega, by omega, by omega, fun hr => ?_⟩
        rcases Nat.eq_zero_or_pos n with h0 | h0
        · exact h0
        · exact absurd ⟨hr, h0⟩ h3
theorem checkN_zero {i : Int} {r : Bool} {n : Nat} (h1 : 0 ≤ i) (h2 : i ≤ 2047) (h3 : n ≤ 8) (h4 : r = true → n = 0) : checkN i r n = 0 := by
  unfold checkN
  rw [if_neg (by omega), if_neg (by omega), if_neg (fun h => by have := h4 h.1; omega)]
theorem checkN_range (i : Int) (r : Bool) (n : Nat) : checkN i r n = 0 ∨ checkN i r n = 3 ∨ checkN i r n = 4 ∨ checkN i r n = 9 := by
  unfold checkN
  split
  · simp
  · split
    · simp
    · split <;> simp
theorem sameB_iff (a b : Fr) : sameB a b = true ↔ a = b := by
  obtain ⟨i, r, l⟩ := a
  obtain ⟨i', r', l'⟩ := b
  unfold sameB
  simp [and_assoc]
theorem sameB_refl (a : Fr) : sameB a a = true := (sameB_iff a a).2 rfl

/-- An Id's three digits. -/
def idS (i : Int) : List UInt8 := [dig ((i / 256).toNat % 16), dig ((i % 256).toNat / 16), dig ((i % 256).toNat % 16)]
def showS (f : Fr) : List UInt8 × Int := if check f = 0 then (idS f.id ++ [35] ++ (if f.rem = true then [82] else hexS f.data), 0) else ([], check f)
/-- The Id with which a text begins. -/
def id3 (s : List UInt8) : Option Nat :=
  match nib (s.getD 0 0), nib (s.getD 1 0), nib (s.getD 2 0) with
  | some x, some y, some z => some (256 * x + 16 * y + z)
  | _, _, _ => none
def nv (c : UInt8) : Nat := (nib c).getD 0
def idv (s : List UInt8) : Nat → Nat
  | 0 => 0
  | k + 1 => 16 * idv s k + nv (s.getD k 0)
theorem nv_lt (c : UInt8) : nv c < 16 := by
  unfold nv
  cases h : nib c with
  | none => decide
  | some k => exact nib_lt h
theorem idv_lt (s : List UInt8) : ∀ k, idv s k < 16 ^ k
  | 0 => by simp [idv]
  | k + 1 => by
    have h1 := idv_lt s k
    have h2 := nv_lt (s.getD k 0)
    rw [idv, Nat.pow_succ]
    omega
def idOk (s : List UInt8) : Prop := 4 ≤ s.length ∧ s.getD 3 0 = 35 ∧ ∀ j, j < 3 → nib (s.getD j 0) ≠ none
theorem id3_ok {s : List UInt8} (h : ∀ j, j < 3 → nib (s.getD j 0) ≠ none) : id3 s = some (idv s 3) := by
  have h0 := h 0 (by omega); have h1 := h 1 (by omega); have h2 := h 2 (by omega)
  unfold id3
  cases e0 : nib (s.getD 0 0) with
  | none => exact absurd e0 h0
  | some x => cases e1 : nib (s.getD 1 0) with
    | none => exact absurd e1 h1
    | some y => cases e2 : nib (s.getD 2 0) with
      | none => exact absurd e2 h2
      | some z =>
        simp only [idv, nv, e0, e1, e2, Option.getD_some]
        congr 1
        omega
theorem id3_bad {s : List UInt8} {j : Nat} (hj : j < 3) (h : nib (s.getD j 0) = none) : id3 s = none := by
  unfold id3
  rcases (show j = 0 ∨ j = 1 ∨ j = 2 by omega) with rfl | rfl | rfl <;> rw [h]
  · cases nib (s.getD 0 0) <;> rfl
  · cases nib (s.getD 0 0) <;> cases nib (s.getD 1 0) <;> rfl
def chk (f : Fr) : Fr × Int := if check f = 0 then (f, 0) else (zero, check f)
def parseS (s : List UInt8) : Fr × Int :=
  if 4 ≤ s.length ∧ s.getD 3 0 = 35 then
    match id3 s with
    | none => (zero, 4)
    | some n => if s.drop 4 = [82] then chk ⟨n, true, []⟩ else
      match pairs (s.drop 4) with
      | none => (zero, 4)
      | some d => chk ⟨n, false, d⟩
  else (zero, 4)
theorem parseS_bad {s : List UInt8} (h : ¬ idOk s) : parseS s = (zero, 4) := by
  unfold parseS
  split
  · rename_i h1
    have : ∃ j, j < 3 ∧ nib (s.getD j 0) = none := by
      apply Classical.byContradiction
      intro hc
      exact h ⟨h1.1, h1.2, fun j hj e => hc ⟨j, hj, e⟩⟩
    obtain ⟨j, hj, e⟩ := this
    rw [id3_bad hj e]
  · rfl
theorem parseS_ok {s : List UInt8} (h : idOk s) : parseS s = if s.drop 4 = [82] then chk ⟨(idv s 3 : Nat), true, []⟩ else
      match pairs (s.drop 4) with
      | none => (zero, 4)
      | some d => chk ⟨(idv s 3 : Nat), false, d⟩ := by
  unfold parseS
  rw [if_pos ⟨h.1, h.2.1⟩, id3_ok h.2.2]
theorem take3 {s : List UInt8} (h : 4 ≤ s.length) : s.take 3 = [s.getD 0 0, s.getD 1 0, s.getD 2 0] := by
  match s, h with
  | a :: b :: c :: d :: r, _ => rfl
theorem pairs_id {s : List UInt8} (h : 4 ≤ s.length) (hn : ∀ j, j < 3 → nib (s.getD j 0) ≠ none) :
    ∃ x y : UInt8, pairs (48 :: s.take 3) = some [x, y] ∧ 256 * x.toNat + y.toNat = idv s 3 := by
  rw [take3 h]
  have h0 := hn 0 (by omega); have h1 := hn 1 (by omega); have h2 := hn 2 (by omega)
  cases e0 : nib (s.getD 0 0) with
  | none => exact absurd e0 h0
  | some x => cases e1 : nib (s.getD 1 0) with
    | none => exact absurd e1 h1
    | some y => cases e2 : nib (s.getD 2 0) with
      | none => exact absurd e2 h2
      | some z =>
        have a := nib_lt e0; have b := nib_lt e1; have c := nib_lt e2
        have e48 : nib 48 = some 0 := by decide
        refine ⟨UInt8.ofNat (16 * 0 + x), UInt8.ofNat (16 * y + z), ?_, ?_⟩
        · simp only [pairs, e48, e0, e1, e2]
        · simp only [idv, nv, e0, e1, e2, Option.getD_some, UInt8.toNat_ofNat']
          omega
theorem pairs_id_bad {s : List UInt8} (h : 4 ≤ s.length) {j : Nat} (hj : j < 3) (hb : nib (s.getD j 0) = none) : pairs (48 :: s.take 3) = none := by
  rw [take3 h]
  have e48 : nib 48 = some 0 := by decide
  rcases (show j = 0 ∨ j = 1 ∨ j = 2 by omega) with rfl | rfl | rfl
  · simp only [pairs, e48, hb]
  · simp only [pairs, hb]
    cases nib (s.getD 0 0) <;> rfl
  · simp only [pairs, hb]
    cases nib (s.getD 0 0) <;> cases nib (s.getD 1 0) <;> rfl
/-- The first line, and the rest behind it. -/
def lineS : List UInt8 → Option (List UInt8 × List UInt8)
  | [] => none
  | c :: s => if c = 10 then some ([], s) else match lineS s with
    | none => none
    | some (a, b) => some (c :: a, b)
theorem lineS_len : ∀ {s a b : List UInt8}, lineS s = some (a, b) → s = a ++ 10 :: b
  | [], _, _, h => by simp [lineS] at h
  | c :: s, a, b, h => by
    unfold lineS at h
    split at h
    · rename_i hc
      injection h with h
      injection h with h1 h2
      subst h1 h2 hc
      rfl
    · split at h
      · cases h
      · rename_i a' b' he
        injection h with h
        injection h with h1 h2
        subst h1 h2
        rw [lineS_len he]
        rfl
/-- The frames of a text: the frames so far in l. -/
def linesF : Nat → List UInt8 → List Fr → List Fr × Int × Nat
  | 0, _, l => (l, 0, 0)
  | k + 1, s, l => if s = [] then (l, 0, 0) else match lineS s with
    | none => ([], 4, l.length)
    | some (a, b) => if (parseS a).2 = 0 then linesF k b (l ++ [(parseS a).1]) else ([], (parseS a).2, l.length)
def linesS (s : List UInt8) : List Fr × Int × Nat := linesF (s.length + 1) s []
def textF : List Fr → List UInt8 → List UInt8 × Int
  | [], t => (t, 0)
  | f :: l, t => if (showS f).2 = 0 then textF l (t ++ ((showS f).1 ++ [10])) else ([], (showS f).2)
def textS (l : List Fr) : List UInt8 × Int := textF l []
def allB : List Fr → List Fr → Bool
  | [], [] => true
  | a :: l, b :: m => sameB a b && allB l m
  | _, _ => false
end Go.Proofs.YtbmocffnnlfnjaaGreat.Can
/-
  Frames in memory: an argument that is a frame, a slice of frames.
  Conditions: none.
-/
namespace Go.Proofs.YtbmocffnnlfnjaaGreat
set_option linter.unusedVariables false
set_option linter.unusedSimpArgs false
open Go.ChangeShapes Go.WideShapes Go.ChangeAt Go.RowKit
theorem alloc_three (w : World) (o o' o'' : Obj) : Below w.heap.size w (((w.alloc o).alloc o').alloc o'') := ((((Below.refl _ w).alloc (Nat.le_refl _) o).alloc (by simp) o').alloc (by simp; omega) o'')
/-- The cells of a frame. -/
def FrC (w : World) (B : Nat) (f : Can.Fr) (cs : List Value) : Prop := ∃ A n c, cs = [.int .i64 f.id, .bool f.rem, .slice A n c] ∧ RB w B A n c f.data
theorem FrC.keep {w w' : World} {B : Nat} {f : Can.Fr} {cs : List Value} (h : FrC w B f cs) (hk : ∀ p : Addr, p.block < B → w'.cell? p = w.cell? p) : FrC w' B f cs := by
  obtain ⟨A, n, c, h1, h2⟩ := h
  exact ⟨A, n, c, h1, h2.keep hk⟩
theorem FrC.below {w w' : World} {B : Nat} {f : Can.Fr} {cs : List Value} (h : FrC w B f cs) (hb : Below B w w') : FrC w' B f cs := h.keep fun _ hp => hb.cell hp
theorem FrC.more {w : World} {B B' : Nat} {f : Can.Fr} {cs : List Value} (h : FrC w B f cs) (hB : B ≤ B') : FrC w B' f cs := by
  obtain ⟨A, n, c, h1, h2⟩ := h
  exact ⟨A, n, c, h1, h2.more hB⟩
theorem FrC.len {w : World} {B : Nat} {f : Can.Fr} {cs : List Value} (h : FrC w B f cs) : cs.length = 3 := by
  obtain ⟨A, n, c, rfl, _⟩ := h
  rfl
/-- A slice of frames. -/
def RF (w : World) (B : Nat) (A : Option Addr) (n c : Nat) (fs : List Can.Fr) : Prop := ∃ xs, RV w B 3 A n c xs ∧ Rows (FrC w B) 3 fs xs
section
variable {w w' : World} {B B' n c : Nat} {A : Option Addr} {fs : List Can.Fr}
theorem RF.len (h : RF w B A n c fs) : fs.length = n := by
  obtain ⟨xs, h1, h2⟩ := h
  have := h1.len
  have := h2.len
  omega
theorem RF.lt (h : RF w B A n c fs) : n ≤ 9223372036854775807 := by
  obtain ⟨xs, h1, h2⟩ := h
  exact Nat.le_trans h1.le h1.cap
theorem RF.below (h : RF w B A n c fs) (hb : Below B w w') : RF w' B A n c fs := by
  obtain ⟨xs, h1, h2⟩ := h
  exact ⟨xs, h1.below hb, h2.imp fun _ _ hr => hr.below hb⟩
theorem RF.keep (h : RF w B A n c fs) (hk : ∀ p : Addr, p.block < B → w'.cell? p = w.cell? p) : RF w' B A n c fs := by
  obtain ⟨xs, h1, h2⟩ := h
  exact ⟨xs, h1.keep hk, h2.imp fun _ _ hr => hr.keep hk⟩
theorem RF.more (h : RF w B A n c fs) (hB : B ≤ B') : RF w B' A n c fs := by
  obtain ⟨xs, h1, h2⟩ := h
  exact ⟨xs, h1.more hB, h2.imp fun _ _ hr => hr.more hB⟩
theorem RF.drew (h : RF w B A n c fs) : RF w.drew B A n c fs := h.keep fun _ _ => rfl
theorem RF.at_ (h : RF w B A n c fs) {i : Nat} (hi : i < n) : ∃ b o A' n' c', A = some ⟨b, o, none⟩ ∧ b < B ∧ w.cell? ⟨b, o + i * 3, none⟩ = some (.int .i64 (fs.getD i Can.zero).id) ∧
    w.cell? ⟨b, o + i * 3 + 1, none⟩ = some (.bool (fs.getD i Can.zero).rem) ∧ w.cell? ⟨b, o + i * 3 + 2, none⟩ = some (.slice A' n' c') ∧ RB w B A' n' c' (fs.getD i Can.zero).data := by
  have hl := h.len
  obtain ⟨xs, h1, h2⟩ := h
  obtain ⟨b, o, rfl, hb, hc⟩ := h1.at_ (by omega)
  have hf : fs[i]? = some (fs.getD i Can.zero) := by simp [List.getD, List.getElem?_eq_getElem (show i < fs.length by omega)]
  obtain ⟨A', n', c', e, hr⟩ := h2.2 i _ hf
  have e0 : ∀ j, ((xs.drop (i * 3)).take 3)[j]? = if j < 3 then xs[i * 3 + j]? else none := fun j => by rw [List.getElem?_take, List.getElem?_drop]
  rw [e] at e0
  refine ⟨b, o, A', n', c', rfl, hb, ?_, ?_, ?_, hr⟩
  · have := hc (i * 3) _ (by have := e0 0; simpa using this.symm)
    exact this
  · have := hc (i * 3 + 1) _ (by have := e0 1; simpa using this.symm)
    rw [← Nat.add_assoc] at this
    exact this
  · have := hc (i * 3 + 2) _ (by have := e0 2; simpa using this.symm)
    rw [← Nat.add_assoc] at this
    exact this
end
section
variable {H : Type} {enc : TypeId × Value → H} {w : World} {spare : Nat → Bool} {held : Bool}
set_option maxRecDepth 100000 in
theorem cells_frame {fuel : Nat} {cs : List Value} {x : DataW H × List MemPlace} (h : DataW.trod enc Tryz.prog w 0 spare held fuel 60 cs = some x) : ∃ f, FrC w w.heap.size f cs ∧ (Lit.int .i64 f.id).wf = true := by
  have h3 : cs.length = 3 := trod_len Tryz.underlying60 h (by kernel_rfl)
  match cs, h3 with
  | [a, b, d], _ =>
    obtain ⟨_, _, t0⟩ := trod_one Tryz.underlying60 h 0 3 0 a rfl (by kernel_rfl) rfl
    obtain ⟨_, _, t1⟩ := trod_one Tryz.underlying60 h 1 4 1 b rfl (by kernel_rfl) rfl
    obtain ⟨_, _, t2⟩ := trod_one Tryz.underlying60 h 2 49 2 d rfl (by kernel_rfl) rfl
    obtain ⟨i, rfl, hw⟩ := cell_int Tryz.underlying3 t0
    obtain ⟨r, rfl⟩ := cell_bool Tryz.underlying4 t1
    obtain ⟨A, n, c, l, rfl, hr⟩ := cell_bytes Tryz.underlying49 Tryz.underlying5 (by kernel_rfl) t2
    exact ⟨⟨i, r, l⟩, ⟨A, n, c, rfl, hr⟩, hw⟩
set_option maxRecDepth 100000 in
theorem open_frame {r : Reach} {b0 : Nat} {v : Value} {d : DataW H} {p : List MemPlace} (hv : Value.okWide Tryz.prog w r b0 60 v) (h : DataW.Trod enc Tryz.prog w 0 spare held 60 v d p) :
    ∃ (i : Int) (r : Bool) (A : Option Addr) (n c : Nat) (l : List UInt8), v = .agg #[.int .i64 i, .bool r, .slice A n c] ∧ (Lit.int .i64 i).wf = true ∧ RB w w.heap.size A n c l := by
  obtain ⟨cs, rfl, hsz⟩ := okWide_struct Tryz.underlying60 hv
  obtain ⟨fuel, hf⟩ := h
  obtain ⟨f, ⟨A, n, c, e, hr⟩, hw⟩ := cells_frame hf
  have e : cs.toList = [.int .i64 f.id, .bool f.rem, .slice A n c] := by simpa [Value.cells] using e
  refine ⟨f.id, f.rem, A, n, c, f.data, ?_, hw, hr⟩
  rw [← Array.toArray_toList (xs := cs), e]
end
end Go.Proofs.YtbmocffnnlfnjaaGreat
/-
  Walk: send of layer 32.
  Conditions: none.
-/
namespace Go.Proofs.YtbmocffnnlfnjaaGreat
set_option linter.unusedVariables false
set_option linter.unusedSimpArgs false
open Go.RowKit
/-- The frames that are sent: one or none. -/
def framesS (v : Nat) (o : Option (List UInt8)) : List Can.Fr := match o with | none => [] | some b => [⟨(Cob.pdo v : Int), false, b⟩]
def FrW (w : World) (base : Nat) (f : Can.Fr) (cs : List Value) : Prop := ∃ A n c, cs = [.int .i64 f.id, .bool f.rem, .slice A n c] ∧ OB w base A n c f.data
/-- A call that may send, its frames, and the PDO behind it. -/
def SendP (l : List Can.Fr) (base g gd v : Nat) (t inh ev : Int) (ws : List Nat) (Aw : Option Addr) (cw : Nat) (s : Tp.St) (w : World) (e : Ending) (w' : World) : Prop :=
  ∃ A c, e = .returned (.slice A l.length c) ∧ OS (FrW w' w.heap.size) w' w.heap.size 60 3 A l.length c l ∧ Mv (fun q => q = g) w w' ∧ TpM w' base g gd v t inh ev ws Aw cw s
theorem send_none {l : List Can.Fr} {base g gd v : Nat} {t inh ev : Int} {ws : List Nat} {Aw : Option Addr} {cw : Nat} {s : Tp.St} {w w' : World} (hl : l = []) (hm : Mv (fun q => q = g) w w') (h : TpM w' base g gd v t inh ev ws Aw cw s) : SendP l base g gd v t inh ev ws Aw cw s w (.returned (.slice none 0 0)) w' := by
  subst hl
  exact ⟨none, 0, rfl, OS.none_ _ _ _ _, hm, h⟩
set_option maxRecDepth 100000 in
set_option maxHeartbeats 4000000 in
theorem Send_any {F : Nat → Prop} {w : World} {base g gd v : Nat} {t inh ev : Int} {ws : List Nat} {Aw : Option Addr} {cw : Nat} {s : Tp.St} {gv lc vc : Nat} {la : Addr} {vA : Option Addr} {xs vs : List Value} {D : Dc.Dic} (h : TpM w base g gd v t inh ev ws Aw cw s) (hD : DRt 66 w F gd gv (some la) lc vA vc xs vs D) (hF : ∀ q, F q → q ≠ g) (hd : ∀ e ∈ D.l, e.dflt.length ≤ 1000000) (hv : ∀ v ∈ D.v, v.length ≤ 1000000) (hwl : ∀ x ∈ ws, x < 4294967296) :
    Calls Tryz.prog 45 #[.pointer (some ⟨g, 0, none⟩)] w (SendP (framesS v (Tp.bytesS D v ws)) base g gd v t inh ev ws Aw cw (Tp.sentS inh ev s) w) := by
  have F0 := h.blk.eleven
  have B0 : Blk w.drew g 75 #[.pointer (some ⟨gd, 0, none⟩), .int .u32 (v : Int), .int .i64 t, .int .i64 inh, .int .i64 ev, .slice Aw ws.length cw, .int .i64 (Cob.pdo v : Int), .bool s.due, .int .i64 s.hold, .int .i64 s.left, .int .i64 s.count] := h.blk
  have f0 := B0.eleven
  have B1 := B0.set_ 7 (.bool false)
  have f1 : (w.drew.setCell ⟨g, 7, none⟩ (.bool false)).frozen? ⟨g, 8, none⟩ = false := B1.frozen 8
  have c1 : (w.drew.setCell ⟨g, 7, none⟩ (.bool false)).cell? ⟨g, 8, none⟩ = some (.int .i64 s.hold) := B1.cell 8
  have B2 := B1.set_ 8 (.int .i64 inh)
  have f2 : ((w.drew.setCell ⟨g, 7, none⟩ (.bool false)).setCell ⟨g, 8, none⟩ (.int .i64 inh)).frozen? ⟨g, 9, none⟩ = false := B2.frozen 9
  have c2 : ((w.drew.setCell ⟨g, 7, none⟩ (.bool false)).setCell ⟨g, 8, none⟩ (.int .i64 inh)).cell? ⟨g, 9, none⟩ = some (.int .i64 s.left) := B2.cell 9
  have B3 := B2.set_ 9 (.int .i64 ev)
  obtain ⟨K, hK⟩ : ∃ K : World → Prop, K = fun x => x.cell? ⟨g, 3, none⟩ = some (.int .i64 inh) ∧ x.cell? ⟨g, 4, none⟩ = some (.int .i64 ev) := ⟨_, rfl⟩
  have hKe : ∀ x, K x → x.cell? ⟨g, 3, none⟩ = some (.int .i64 inh) ∧ x.cell? ⟨g, 4, none⟩ = some (.int .i64 ev) := by
    intro x hx
    rw [hK] at hx
    exact hx
  have hk0 : K w.drew := by rw [hK]; exact ⟨B0.cell 3, B0.cell 4⟩
  have hk1 : K (w.drew.setCell ⟨g, 7, none⟩ (.bool false)) := by rw [hK]; exact ⟨B1.cell 3, B1.cell 4⟩
  have hk2 : K ((w.drew.setCell ⟨g, 7, none⟩ (.bool false)).setCell ⟨g, 8, none⟩ (.int .i64 inh)) := by rw [hK]; exact ⟨B2.cell 3, B2.cell 4⟩
  have hk3 : K (((w.drew.setCell ⟨g, 7, none⟩ (.bool false)).setCell ⟨g, 8, none⟩ (.int .i64 inh)).setCell ⟨g, 9, none⟩ (.int .i64 ev)) := by rw [hK]; exact ⟨B3.cell 3, B3.cell 4⟩
  have k3 : ∀ v : Wk K ⟨w.drew, hk0⟩, v.val.cell? ⟨g, 3, none⟩ = some (.int .i64 inh) := fun v => (hKe _ v.ok).1
  have k4 : ∀ v : Wk K ⟨w.drew, hk0⟩, v.val.cell? ⟨g, 4, none⟩ = some (.int .i64 ev) := fun v => (hKe _ v.ok).2
  have W1 : OWt (((w.drew.setCell ⟨g, 7, none⟩ (.bool false)).setCell ⟨g, 8, none⟩ (.int .i64 inh)).setCell ⟨g, 9, none⟩ (.int .i64 ev)) base Aw ws.length cw ws := OV.off (OV.off (OV.off (show OV w.drew base 23 1 Aw ws.length cw _ from h.words) B0 (by decide)) B1 (by decide)) B2 (by decide)
  have M1 : Mv (fun q => q = g) w (((w.drew.setCell ⟨g, 7, none⟩ (.bool false)).setCell ⟨g, 8, none⟩ (.int .i64 inh)).setCell ⟨g, 9, none⟩ (.int .i64 ev)) := (((Mv.refl _ _).drew.trans (Mv.setCell w.drew ⟨g, 7, none⟩ _) (fun _ _ e => e)).trans (Mv.setCell _ ⟨g, 8, none⟩ _) (fun _ _ e => e)).trans (Mv.setCell _ ⟨g, 9, none⟩ _) (fun _ _ e => e)
  have T1 : TpM (((w.drew.setCell ⟨g, 7, none⟩ (.bool false)).setCell ⟨g, 8, none⟩ (.int .i64 inh)).setCell ⟨g, 9, none⟩ (.int .i64 ev)) base g gd v t inh ev ws Aw cw (Tp.sentS inh ev s) := ⟨h.gb, B3, W1⟩
  have hD1 := hD.mv M1 fun q _ hf => hF q hf
  clear B0 B1 B2 B3 W1 hD hK hKe h
  go_enter Tryz.func45, Tryz.ntmps45
  go_wp2_with fail
  refine region_wk 99 ⟨w.drew, hk0⟩ (by kernel_rfl) ?_
  refine phase_wk (by kernel_rfl) 7 hk0 [0, 1, 2, 3, 8, 4, 9, 5, 10, 6, 11, 7, 12, 13, 14] rfl (by kernel_rfl) ?_
  simp only [picks, nth]
  repeat (go_big_quiet_step (fail))
  refine wpQuiet_nil ?_
  refine phase_opL 15 6 rfl (by kernel_rfl) (by decide) ?_
  simp only [nth]
  go_wp2_with fail
  refine behind_wk hk1 ?_
  refine phase_wk (by kernel_rfl) 4 hk1 [16, 17] rfl (by kernel_rfl) ?_
  simp only [picks, nth]
  repeat (go_big_quiet_step (fail))
  refine wpQuiet_nil ?_
  refine phase_opL 18 3 rfl (by kernel_rfl) (by decide) ?_
  simp only [nth]
  go_wp2_with fail
  refine behind_wk hk2 ?_
  refine phase_wk (by kernel_rfl) 1 hk2 [19, 20] rfl (by kernel_rfl) ?_
  simp only [picks, nth]
  repeat (go_big_quiet_step (fail))
  refine wpQuiet_nil ?_
  refine phase_opL 21 0 rfl (by kernel_rfl) (by decide) ?_
  simp only [nth]
  go_wp2_with fail
  refine behind_wk hk3 ?_
  refine phase_endL (by kernel_rfl) ?_
  clear F0 f0 f1 c1 f2 c2 k3 k4 hk0 hk1 hk2 hk3
  have hw1 : ((w.drew.setCell ⟨g, 7, none⟩ (.bool false)).setCell ⟨g, 8, none⟩ (.int .i64 inh)).setCell ⟨g, 9, none⟩ (.int .i64 ev) = (((w.setCell ⟨g, 7, none⟩ (.bool false)).setCell ⟨g, 8, none⟩ (.int .i64 inh)).setCell ⟨g, 9, none⟩ (.int .i64 ev)).drew := rfl
  rw [hw1] at T1 hD1 M1
  clear hw1
  generalize (((w.setCell ⟨g, 7, none⟩ (.bool false)).setCell ⟨g, 8, none⟩ (.int .i64 inh)).setCell ⟨g, 9, none⟩ (.int .i64 ev)).drew = w1 at *
  have G1 := T1.blk.eleven
  have hlw := T1.words.rv.le
  have hcw := T1.words.rv.cap
  by_cases hpd : Cob.pdo v = 0
  · have e0 : (Cob.pdo v : Int) = 0 := by omega
    have HB := Lib.hid (show framesS v (Tp.bytesS D v ws) = [] by unfold Tp.bytesS; rw [if_pos (.inl hpd)]; rfl)
    rw [e0] at G1
    clear e0 hpd hD1
    go_wp2_with fail
    go_ret
    exact send_none HB.out M1 T1
  · have e1 : ((Cob.pdo v : Int) == 0) = false := by rw [beq_eq_false_iff_ne]; omega
    by_cases hws : ws.length = 0
    · have e2 : ((ws.length : Int) == 0) = true := by rw [hws]; rfl
      have HB := Lib.hid (show framesS v (Tp.bytesS D v ws) = [] by unfold Tp.bytesS; rw [if_pos (.inr hws)]; rfl)
      clear hpd hws hD1
      go_wp2_with fail
      go_ret
      exact send_none HB.out M1 T1
    · have e2 : ((ws.length : Int) == 0) = false := by rw [beq_eq_false_iff_ne]; omega
      have GA := Gather_any (hD1.below (below_drew w1)) hd hv ((OWt.rw T1.words).below (below_drew w1)) hwl (Nat.le_refl _)
      have hbs : Tp.bytesS D v ws = if (Mp.gatherS D ws).2 = 0 then some (Mp.gatherS D ws).1 else none := by unfold Tp.bytesS; rw [if_neg (by simp [hpd, hws])]
      unfold PackPost at GA
      generalize Mp.gatherS D ws = gs at *
      obtain ⟨gl, ge⟩ := gs
      dsimp only at GA hbs
      replace GA := Lib.hid GA
      have HBS := Lib.hid hbs
      have g0 := cell_regrown G1.1.1
      have g5 := cell_regrown (T1.blk.cell 5)
      clear hpd hws hD1 hbs
      go_wp2_with fail
      refine region_later (by kernel_rfl) ?_
      refine phase_later (by kernel_rfl) 6 (below_drew _) [0, 4, 1, 5, 2, 6, 3, 7, 8] rfl (by kernel_rfl) ?_
      simp only [picks, nth]
      repeat (go_big_quiet_step (fail))
      refine wpQuiet_nil ?_
      refine phase_op 9 5 rfl (by kernel_rfl) (by decide) ?_
      simp only [nth]
      go_wp2_with fail
      refine (GA.out).mono ?_
      rintro e w2 ⟨A2, c2, rfl, o2, b2⟩
      have b12 : Below w1.heap.size w1 w2 := (below_drew w1).trans b2
      go_wp2_with fail
      refine behind_later b12 ?_
      refine phase_later (by kernel_rfl) 0 (Below.refl _ _) [10, 11, 12, 13, 14] rfl (by kernel_rfl) ?_
      simp only [picks, nth]
      repeat (go_big_quiet_step (fail))
      refine wpQuiet_nil ?_
      refine phase_end (by kernel_rfl) ?_
      have T2 := T1.below b12
      have G2 := T2.blk.cell 6
      have M2 : Mv (fun q => q = g) w w2 := M1.trans (Mv.of_new b12 (fun q => q = g)) fun _ _ e => e
      clear G1 g0 g5 GA
      by_cases hge : ge = 0
      · subst hge
        have b3 := alloc_one w2 (.cells #[.int .i64 (Cob.pdo v : Int), .bool false, .slice A2 gl.length c2] 60)
        go_wp2_with fail
        go_ret
        have hb2 : Tp.bytesS D v ws = some gl := HBS.out
        rw [hb2]
        refine ⟨some ⟨w2.heap.size, 0, none⟩, 1, rfl, ?_, M2.trans (Mv.of_new b3 (fun q => q = g)) fun _ _ e => e, T2.below b3⟩
        have hz := M2.size
        refine ⟨[.int .i64 (Cob.pdo v : Int), .bool false, .slice A2 gl.length c2], OV.new w2 _ 1 rfl (by omega) hz, ?_⟩
        exact Rows.one ⟨A2, gl.length, c2, rfl, ((o2.below b3).more (Nat.le_trans M1.size (by simp)))⟩ rfl
      · have hge2 : (ge == 0) = false := by simpa using hge
        have hge3 : (ge != 0) = true := by simpa using hge
        have HG := Lib.hid hge
        clear hge
        go_wp2_with fail
        go_ret
        exact send_none (by rw [HBS.out, if_neg HG.out]; rfl) M2 T2
end Go.Proofs.YtbmocffnnlfnjaaGreat
/-
  Walks: Trigger, Pulse of layer 32.
  Conditions: none.
-/
namespace Go.Proofs.YtbmocffnnlfnjaaGreat
set_option linter.unusedVariables false
set_option linter.unusedSimpArgs false
open Go.RowKit
/-- What is sent, and the state behind, of what an operation says. -/
def outT (v : Nat) (o : Option (List UInt8)) (x : Bool × Tp.St) : List Can.Fr := if x.1 = true then framesS v o else []
def stT (inh ev : Int) (x : Bool × Tp.St) : Tp.St := if x.1 = true then Tp.sentS inh ev x.2 else x.2
section
variable {F : Nat → Prop} {w : World} {base g gd v : Nat} {t inh ev : Int} {ws : List Nat} {Aw : Option Addr} {cw : Nat} {s : Tp.St} {gv lc vc : Nat} {la : Addr} {vA : Option Addr} {xs vs : List Value} {D : Dc.Dic}
theorem TpM.due (h : TpM w base g gd v t inh ev ws Aw cw s) (b : Bool) : TpM (w.setCell ⟨g, 7, none⟩ (.bool b)) base g gd v t inh ev ws Aw cw { s with due := b } := ⟨h.gb, h.blk.set_ 7 (.bool b), OV.off h.words h.blk (by decide)⟩
theorem TpM.cnt (h : TpM w base g gd v t inh ev ws Aw cw s) (b : Int) : TpM (w.setCell ⟨g, 10, none⟩ (.int .i64 b)) base g gd v t inh ev ws Aw cw { s with count := b } := ⟨h.gb, h.blk.set_ 10 (.int .i64 b), OV.off h.words h.blk (by decide)⟩
set_option maxRecDepth 100000 in
set_option maxHeartbeats 4000000 in
theorem Trigger_any (h : TpM w base g gd v t inh ev ws Aw cw s) (hD : DRt 66 w F gd gv (some la) lc vA vc xs vs D) (hF : ∀ q, F q → q ≠ g) (hd : ∀ e ∈ D.l, e.dflt.length ≤ 1000000) (hv : ∀ v ∈ D.v, v.length ≤ 1000000) (hwl : ∀ x ∈ ws, x < 4294967296) :
    Calls Tryz.prog 13 #[.pointer (some ⟨g, 0, none⟩)] w (SendP (outT v (Tp.bytesS D v ws) (Tp.trigS t s)) base g gd v t inh ev ws Aw cw (stT inh ev (Tp.trigS t s)) w) := by
  have F0 := h.blk.eleven
  have DV := driven_any h
  have SD := Lib.hid (Send_any h hD hF hd hv hwl)
  have TD := h.due true
  have MD : Mv (fun q => q = g) w (w.setCell ⟨g, 7, none⟩ (.bool true)) := Mv.setCell w ⟨g, 7, none⟩ _
  by_cases ht : 254 ≤ t
  · rw [decide_eq_true ht] at DV
    have t0 : (t == 0) = false := by rw [beq_eq_false_iff_ne]; omega
    have DV := Lib.hid DV
    by_cases hh : s.hold = 0
    · have HT := Lib.hid (show Tp.trigS t s = (true, s) by unfold Tp.trigS; rw [if_pos ht, if_pos hh])
      rw [hh] at F0
      clear hh hD TD MD h
      go_enter Tryz.func13, Tryz.ntmps13
      go_wp2_with fail
      refine (DV.out).mono ?_
      rintro e _ ⟨rfl, rfl⟩
      go_wp2_with fail
      refine (SD.out).mono ?_
      rintro e w2 ⟨A, c, rfl, o, M, T2⟩
      go_wp2_with fail
      go_ret
      rw [HT.out]
      exact ⟨A, c, rfl, o, M, T2⟩
    · have HT := Lib.hid (show Tp.trigS t s = (false, { s with due := true }) by unfold Tp.trigS; rw [if_pos ht, if_neg hh])
      have hh2 : (s.hold == 0) = false := by simpa using hh
      clear hh hD h SD
      go_enter Tryz.func13, Tryz.ntmps13
      go_wp2_with fail
      refine (DV.out).mono ?_
      rintro e _ ⟨rfl, rfl⟩
      go_wp2_with fail
      go_ret
      rw [HT.out]
      exact send_none rfl MD TD
  · rw [decide_eq_false ht] at DV
    have DV := Lib.hid DV
    by_cases h0 : t = 0
    · subst h0
      have HT := Lib.hid (show Tp.trigS 0 s = (false, { s with due := true }) by unfold Tp.trigS; rw [if_neg ht, if_pos rfl])
      clear hD h SD
      go_enter Tryz.func13, Tryz.ntmps13
      go_wp2_with fail
      refine (DV.out).mono ?_
      rintro e _ ⟨rfl, rfl⟩
      go_wp2_with fail
      go_ret
      rw [HT.out]
      exact send_none rfl MD TD
    · have HT := Lib.hid (show Tp.trigS t s = (false, s) by unfold Tp.trigS; rw [if_neg ht, if_neg h0])
      have t0 : (t == 0) = false := by simpa using h0
      clear h0 hD SD MD TD
      have H := Lib.hid h
      clear h
      go_enter Tryz.func13, Tryz.ntmps13
      go_wp2_with fail
      refine (DV.out).mono ?_
      rintro e _ ⟨rfl, rfl⟩
      go_wp2_with fail
      go_ret
      rw [HT.out]
      exact send_none rfl (Mv.refl _ _) H.out
end
end Go.Proofs.YtbmocffnnlfnjaaGreat
/-
  Walks: Pulse of layer 32.
  Conditions: none.
-/
namespace Go.Proofs.YtbmocffnnlfnjaaGreat
set_option linter.unusedVariables false
set_option linter.unusedSimpArgs false
open Go.RowKit Go.Sort
section
variable {F : Nat → Prop} {w : World} {base g gd v : Nat} {t inh ev : Int} {ws : List Nat} {Aw : Option Addr} {cw : Nat} {s : Tp.St} {gv lc vc : Nat} {la : Addr} {vA : Option Addr} {xs vs : List Value} {D : Dc.Dic}
set_option maxRecDepth 100000 in
set_option maxHeartbeats 4000000 in
theorem TPulse_any (h : TpM w base g gd v t inh ev ws Aw cw s) (hcnt : 0 ≤ s.count ∧ s.count ≤ 1000) (hD : DRt 66 w F gd gv (some la) lc vA vc xs vs D) (hF : ∀ q, F q → q ≠ g) (hd : ∀ e ∈ D.l, e.dflt.length ≤ 1000000) (hv : ∀ v ∈ D.v, v.length ≤ 1000000) (hwl : ∀ x ∈ ws, x < 4294967296) :
    Calls Tryz.prog 17 #[.pointer (some ⟨g, 0, none⟩)] w (SendP (outT v (Tp.bytesS D v ws) (Tp.pulseS t s)) base g gd v t inh ev ws Aw cw (stT inh ev (Tp.pulseS t s)) w) := by
  have F0 := h.blk.eleven
  have DV := driven_any h
  by_cases ht : 254 ≤ t
  · rw [decide_eq_true ht] at DV
    have DV := Lib.hid DV
    have HT := Lib.hid (show Tp.pulseS t s = (false, s) by unfold Tp.pulseS; rw [if_pos ht])
    have H := Lib.hid h
    clear h hD
    go_enter Tryz.func17, Tryz.ntmps17
    go_wp2_with fail
    refine (DV.out).mono ?_
    rintro e _ ⟨rfl, rfl⟩
    go_wp2_with fail
    go_ret
    rw [HT.out]
    exact send_none rfl (Mv.refl _ _) H.out
  · rw [decide_eq_false ht] at DV
    have DV := Lib.hid DV
    by_cases h0 : t = 0
    · subst h0
      have HT := Lib.hid (show Tp.pulseS 0 s = (s.due, s) by unfold Tp.pulseS; rw [if_neg ht, if_pos rfl])
      have SD := Lib.hid (Send_any h hD hF hd hv hwl)
      have H := Lib.hid h
      clear hD h
      cases hdu : s.due
      · rw [hdu] at F0 HT
        clear hdu
        go_enter Tryz.func17, Tryz.ntmps17
        go_wp2_with fail
        refine (DV.out).mono ?_
        rintro e _ ⟨rfl, rfl⟩
        go_wp2_with fail
        go_ret
        rw [HT.out]
        exact send_none rfl (Mv.refl _ _) H.out
      · rw [hdu] at F0 HT
        clear hdu
        go_enter Tryz.func17, Tryz.ntmps17
        go_wp2_with fail
        refine (DV.out).mono ?_
        rintro e _ ⟨rfl, rfl⟩
        go_wp2_with fail
        refine (SD.out).mono ?_
        rintro e w2 ⟨A, c, rfl, o, M, T2⟩
        go_wp2_with fail
        go_ret
        rw [HT.out]
        exact ⟨A, c, rfl, o, M, T2⟩
    · have t0 : (t == 0) = false := by simpa using h0
      have T1 := h.cnt (s.count + 1)
      have M1 : Mv (fun q => q = g) w (w.setCell ⟨g, 10, none⟩ (.int .i64 (s.count + 1))) := Mv.setCell w ⟨g, 10, none⟩ _
      have F1 := T1.blk.eleven
      have F1a := cell_regrown (T1.blk.cell 2)
      have F1b := cell_regrown (T1.blk.cell 10)
      by_cases hlt : s.count + 1 < t
      · have HT := Lib.hid (show Tp.pulseS t s = (false, { s with count := s.count + 1 }) by unfold Tp.pulseS; rw [if_neg ht, if_neg h0, if_pos hlt])
        clear hD h h0
        go_enter Tryz.func17, Tryz.ntmps17
        go_wp2_with fail
        refine (DV.out).mono ?_
        rintro e _ ⟨rfl, rfl⟩
        go_wp2_with fail
        refine wp_region_quiet_below (by kernel_rfl) (by kernel_rfl) ?_
        repeat (go_big_quiet_step (fail))
        refine wpQuiet_nil ?_
        intro _ hw'
        obtain ⟨⟨dq, osq⟩, hw''⟩ := hw'
        subst hw''
        dsimp only
        have bq := below_regrown (w.setCell ⟨g, 10, none⟩ (.int .i64 (s.count + 1))) dq osq
        have Tq := T1.below bq
        have Mq : Mv (fun q => q = g) w (grow (redrawn (w.setCell ⟨g, 10, none⟩ (.int .i64 (s.count + 1))) dq) osq) := M1.trans (Mv.of_new bq (fun q => q = g)) (fun _ _ e => e)
        clear F1 F1a F1b bq T1 M1
        generalize grow (redrawn (w.setCell ⟨g, 10, none⟩ (.int .i64 (s.count + 1))) dq) osq = wq at *
        go_wp2_with fail
        go_ret
        rw [HT.out]
        exact send_none rfl Mq Tq
      · have HT := Lib.hid (show Tp.pulseS t s = (true, { s with count := 0 }) by unfold Tp.pulseS; rw [if_neg ht, if_neg h0, if_neg hlt])
        clear h h0
        go_enter Tryz.func17, Tryz.ntmps17
        go_wp2_with fail
        refine (DV.out).mono ?_
        rintro e _ ⟨rfl, rfl⟩
        go_wp2_with fail
        refine wp_region_quiet_below (by kernel_rfl) (by kernel_rfl) ?_
        repeat (go_big_quiet_step (fail))
        refine wpQuiet_nil ?_
        intro _ hw'
        obtain ⟨⟨dq, osq⟩, hw''⟩ := hw'
        subst hw''
        dsimp only
        have bq := below_regrown (w.setCell ⟨g, 10, none⟩ (.int .i64 (s.count + 1))) dq osq
        have Tq := T1.below bq
        have Mq : Mv (fun q => q = g) w (grow (redrawn (w.setCell ⟨g, 10, none⟩ (.int .i64 (s.count + 1))) dq) osq) := M1.trans (Mv.of_new bq (fun q => q = g)) (fun _ _ e => e)
        clear F1 F1a F1b bq T1 M1
        generalize grow (redrawn (w.setCell ⟨g, 10, none⟩ (.int .i64 (s.count + 1))) dq) osq = wq at *
        have T2 := Tq.cnt 0
        have M2 : Mv (fun q => q = g) w (wq.setCell ⟨g, 10, none⟩ (.int .i64 0)) := Mq.trans (Mv.setCell _ ⟨g, 10, none⟩ _) (fun _ _ e => e)
        have SD := Lib.hid (Send_any T2 (hD.mv M2 fun q _ hf => hF q hf) hF hd hv hwl)
        have Fq := Tq.blk.eleven
        clear hD Tq T2
        go_wp2_with fail
        refine (SD.out).mono ?_
        rintro e w2 ⟨A, c, rfl, o, M, T3⟩
        go_wp2_with fail
        go_ret
        rw [HT.out]
        exact ⟨A, c, rfl, OS.more o M2.size fun f cs ⟨A, n, c, h1, h2⟩ => ⟨A, n, c, h1, h2.more M2.size⟩, M2.trans M fun _ _ e => e, T3⟩
end
end Go.Proofs.YtbmocffnnlfnjaaGreat
