/-
  Texts joined: RpdKnown, FrmPure, FrmMem, RpdOpen, RpdLight, CobRef.
  Conditions: none.
-/
import Derived.Test.YtkddillihhjghaaGreatJ01
import Derived.Test.YtkddillihhjghaaGreatJ02
import Derived.Test.YtkddillihhjghaaGreatJ04
import Derived.Test.YtkddillihhjghaaGreatJ14
import Derived.Test.YtkddillihhjghaaGreatJ16
import Derived.Test.YtkddillihhjghaaGreatJ18
import Derived.KernelRfl
import Derived.Test.YtkddillihhjghaaGreatProg
/-
  Walk: 'known' of the statements of layer 31.
  Conditions: none.
-/
namespace Go.Proofs.YtkddillihhjghaaGreat
set_option linter.unusedVariables false
set_option linter.unusedSimpArgs false
open Go.RowKit
def ka31 : Ent.En := ⟨24576, 1, [97], 5, 4, true, false, 0, 0, 9, [5]⟩
theorem k31new : Dc.newS [ka31] = (0, 0) := by kernel_rfl
theorem k31chk : Rp.checkS [ka31] 517 255 [1610613000] = 0 := by kernel_rfl
theorem k31chk2 : Rp.checkS [ka31] 517 241 [] = 101253168 := by kernel_rfl
theorem k31r1 : Rp.recvS [ka31] 517 255 [1610613000] [] 517 false [7] = ([⟨24576, 1, [7]⟩], 0, []) := by kernel_rfl
theorem k31r2 : Rp.recvS [ka31] 517 255 [1610613000] [] 517 false [] = ([], 33296, []) := by kernel_rfl
theorem k31r3 : Rp.recvS [ka31] 517 255 [1610613000] [] 517 false [10] = ([], 25344, []) := by kernel_rfl
theorem k31id : (Cob.pdo 517 : Int) = 517 := by kernel_rfl
theorem k31entries (w : World) : REn ((w.alloc (.cells #[.int .u8 5] 5)).alloc
    (.cells #[.int .i64 24576, .int .i64 1, .string (T [97]), .int .i64 5, .int .i64 4, .bool true, .bool false, .int .i64 0, .int .i64 0, .int .i64 9, .slice (some ⟨w.heap.size, 0, none⟩) 1 1] 68))
    (w.heap.size + 1 + 1) (w.heap.size + 1) (some ⟨w.heap.size + 1, 0, none⟩) 1 1 [ka31] := by
  have r1 := (RB.lit w [.int .u8 5] [5] rfl (n := 1) rfl (by omega)).alloc (by simp) (.cells #[.int .i64 24576, .int .i64 1, .string (T [97]), .int .i64 5, .int .i64 4, .bool true, .bool false, .int .i64 0, .int .i64 0, .int .i64 9, .slice (some ⟨w.heap.size, 0, none⟩) 1 1] 68)
  have rl := RV.lit (w.alloc (.cells #[.int .u8 5] 5)) 68 1 (size := 11) (cs := [.int .i64 24576, .int .i64 1, .string (T [97]), .int .i64 5, .int .i64 4, .bool true, .bool false, .int .i64 0, .int .i64 0, .int .i64 9, .slice (some ⟨w.heap.size, 0, none⟩) 1 1]) rfl (by omega)
  simp only [World.size_alloc] at r1 rl
  refine ⟨_, rl, ?_⟩
  have h1 : EnC ((w.alloc (.cells #[.int .u8 5] 5)).alloc
    (.cells #[.int .i64 24576, .int .i64 1, .string (T [97]), .int .i64 5, .int .i64 4, .bool true, .bool false, .int .i64 0, .int .i64 0, .int .i64 9, .slice (some ⟨w.heap.size, 0, none⟩) 1 1] 68)) (w.heap.size + 1) ka31 (enL ka31 (some ⟨w.heap.size, 0, none⟩) 1 1) := ⟨_, _, _, rfl, r1⟩
  exact Rows.one h1 rfl
theorem k31dflt : ∀ e ∈ [ka31], e.dflt.length ≤ 1000000 := by intro e he; simp only [List.mem_cons, List.not_mem_nil, or_false] at he; subst he; decide
theorem k31words : ∀ x ∈ [1610613000], x < 4294967296 := by intro x hx; simp at hx; omega
set_option maxRecDepth 100000 in
set_option maxHeartbeats 8000000 in
theorem known31_any (w : World) : Calls Tryz.prog 5 #[] w fun e w' => e = .returned (.bool true) ∧ Below w.heap.size w w' := by
  have F := k31entries w
  have b0 : Below w.heap.size w ((w.alloc (.cells #[.int .u8 5] 5)).alloc
    (.cells #[.int .i64 24576, .int .i64 1, .string (T [97]), .int .i64 5, .int .i64 4, .bool true, .bool false, .int .i64 0, .int .i64 0, .int .i64 9, .slice (some ⟨w.heap.size, 0, none⟩) 1 1] 68)) := alloc_two _ _ _
  have NW := dNew_any _ F (by simp) (by omega) (by intro e he; simp only [List.mem_cons, List.not_mem_nil, or_false] at he; subst he; decide)
  unfold NewPost at NW
  rw [k31new] at NW
  replace NW := Lib.hid NW
  go_enter Tryz.func5, Tryz.ntmps5
  go_wp2_with fail
  refine (NW.out).mono ?_
  rintro e w1 (⟨_, b1, g, gv, lc, vc, la, vA, xs, vs, rfl, hd⟩ | ⟨h0, _⟩)
  case inr => exact absurd rfl h0
  have d1 := below_step b0 b1 (Nat.le_refl _)
  replace hd := hd.cut
  clear NW F b0 b1
  go_wp2_with fail
  have bW := alloc_one w1 (.cells #[.int .u32 1610613000] 23)
  have RN := RpNew_any 517 (by omega) 255 (hd.below bW) k31dflt (RW.lit w1 [1610613000] [.int .u32 1610613000] 1 rfl rfl (by omega)) k31words (by simp)
  unfold RNewP at RN
  rw [k31chk] at RN
  replace RN := Lib.hid RN
  refine (RN.out).mono ?_
  rintro e w2 (⟨_, b2, p, gp, Aw, cw, rfl, hp⟩ | ⟨h0, _⟩)
  case inr => exact absurd rfl h0
  have b12 := below_step bW b2 (Nat.le_refl _)
  have d2 := below_step d1 b12 (Nat.le_refl _)
  replace hd := hd.below b12
  clear RN bW b2 b12
  have RN := RpNew_any (A := none) (n := 0) (c := 0) (ws := []) (B := 0) 517 (by omega) 241 hd k31dflt RV.none_ (by simp) (Nat.zero_le _)
  unfold RNewP at RN
  rw [k31chk2] at RN
  replace RN := Lib.hid RN
  go_wp2_with fail
  refine (RN.out).mono ?_
  rintro e w3 (⟨h0, _⟩ | ⟨_, b3, rfl⟩)
  case inl => exact absurd h0 (by decide)
  have d3 := below_step d2 b3 (Nat.le_refl _)
  replace hd := hd.below b3
  replace hp := hp.below b3
  clear RN b3
  go_wp2_with fail
  have bA := alloc_one w3 (.cells #[.int .u8 7] 5)
  have RA := Recv_on (hp.below bA) (hd.below bA) k31dflt k31words (RB.lit w3 [.int .u8 7] [7] rfl (n := 1) rfl (by omega)) (by simp) (by omega) (by decide) (by decide)
  simp only [k31id] at RA
  rw [k31r1] at RA
  unfold RecvP at RA
  replace RA := Lib.hid RA
  refine (RA.out).mono ?_
  rintro e w4 ⟨A3, c3, rfl, o3, M3, Av3, cv3, hp3⟩
  try dsimp only at o3 hp3
  have hpg := hp.gb
  have hlt : w1.heap.size < p := by simp only [World.size_alloc] at hpg; omega
  have hnd : ∀ q, q < w1.heap.size → ¬ q = p := fun q h e => by omega
  have hsz1 : w1.heap.size ≤ w3.heap.size := by have := hp.blk.lt; omega
  have d4 : Below w.heap.size w w4 := (d3.trans (bA.mono d3.size)).trans (M3.below (Nat.le_trans d3.size bA.size) fun q e => by subst e; have := d1.size; omega)
  have hd4 := (hd.below bA).mv M3 fun q _ hf => hnd q hf.2
  have b5 := alloc_one w4 (.cells #[.slice A3 1 c3, .int .i64 0] 57)
  have KA := Blk.new w4 57 #[.slice A3 1 c3, .int .i64 0]
  have hd5 := hd4.below b5
  have hp5 := hp3.below b5
  have o5 := o3.below b5 (R' := VlW _ _) fun _ _ h => h.below b5
  have d5 := below_step d4 b5 (Nat.le_refl _)
  have RB_ := Recv_on (A := none) (n := 0) (c := 0) (B := 0) (b := []) hp5 hd5 k31dflt k31words RB.none_ (Nat.zero_le _) (by omega) (by decide) (by decide)
  simp only [k31id] at RB_
  rw [k31r2] at RB_
  unfold RecvP at RB_
  replace RB_ := Lib.hid RB_
  have hpl : p < w4.heap.size := hp3.blk.lt
  clear RA
  go_wp2_with fail
  refine (RB_.out).mono ?_
  rintro e w6 ⟨A5, c5, rfl, o6, M6, Av6, cv6, hp6⟩
  try dsimp only at o6 hp6
  have hz6 := M6.size
  have d6 : Below w.heap.size w w6 := d5.trans (M6.below d5.size fun q e => by subst e; have := d1.size; omega)
  have hd6 := hd5.mv M6 fun q _ hf => hnd q hf.2
  have KA6 := KA.mv M6 (by omega)
  have o56 := o5.mvg hp5.blk (by decide) (by decide) M6
  have b7 := alloc_two w6 (.cells #[.slice A5 0 c5, .int .i64 33296] 57) (.cells #[.int .u8 10] 5)
  have KB := (Blk.new w6 57 #[.slice A5 0 c5, .int .i64 33296]).alloc (.cells #[.int .u8 10] 5)
  have rb7 := RB.lit (w6.alloc (.cells #[.slice A5 0 c5, .int .i64 33296] 57)) [.int .u8 10] [10] rfl (n := 1) rfl (by omega)
  simp only [World.size_alloc] at rb7
  have RC := Recv_on (hp6.below b7) (hd6.below b7) k31dflt k31words rb7 (by simp) (by omega) (by decide) (by decide)
  simp only [k31id] at RC
  rw [k31r3] at RC
  unfold RecvP at RC
  replace RC := Lib.hid RC
  have d7 := below_step d6 b7 (Nat.le_refl _)
  have KA7 := KA6.later b7
  have o57 := o56.below b7 (R' := VlW _ _) fun _ _ h => h.below b7
  have hp7 := hp6.below b7
  have hpl6 : p < w6.heap.size := hp6.blk.lt
  clear RB_ KA6 o56 hd6
  go_wp2_with fail
  refine (RC.out).mono ?_
  rintro e w8 ⟨A8, c8, rfl, o8, M8, Av8, cv8, hp8⟩
  try dsimp only at o8 hp8
  have hz8 := M8.size
  simp only [World.size_alloc] at hz8
  have d8 : Below w.heap.size w w8 := d7.trans (M8.below d7.size fun q e => by subst e; have := d1.size; omega)
  have KA8 := KA7.mv M8 (by omega)
  have KB8 := KB.mv M8 (by omega)
  have o58 := o57.mvg hp7.blk (by decide) (by decide) M8
  have b9 := alloc_one w8 (.cells #[.slice A8 0 c8, .int .i64 25344] 57)
  have KC := (Blk.new w8 57 #[.slice A8 0 c8, .int .i64 25344]).two
  have KA9 := (KA8.later b9).two
  have KB9 := (KB8.later b9).two
  have o59 := o58.below b9 (R' := VlW _ _) fun _ _ h => h.below b9
  have hp9 := hp8.below b9
  have d9 := below_step d8 b9 (Nat.le_refl _)
  obtain ⟨q, oo, cs, rfl, hq, ⟨A2, n2, c2, rfl, ow⟩, hc⟩ := RS.at_ o59.rs (i := 0) (by decide) (f := ⟨24576, 1, [7]⟩) rfl
  have q2 := hc 2 _ (by decide) rfl
  have hcv : 1 ≤ c3 ∧ c3 ≤ 9223372036854775807 := by obtain ⟨zs, z1, _⟩ := o59; exact ⟨z1.rv.le, z1.rv.cap⟩
  obtain ⟨hcv1, hcv2⟩ := hcv
  simp only [Nat.zero_mul, Nat.add_zero] at q2
  have e2 := convb ow.rb
  have ID := RpId_any hp9.blk
  rw [k31id] at ID
  replace ID := Lib.hid ID
  clear RC KA KA7 KA8 KB KB8 o5 o57 o58 o59 hp5 hp6 hp7 hp8 hp9 hp3 hp hd hd4 hd5 hc o3 o6 o8 M3 M6 M8
  go_wp2_with fail
  refine (ID.out).mono ?_
  rintro e _ ⟨rfl, rfl⟩
  go_wp2_with fail
  go_ret
  exact ⟨rfl, d9⟩
end Go.Proofs.YtkddillihhjghaaGreat
/-
  Layer 10 as plain functions: frames, their texts, their order.
  Conditions: none.
-/
namespace Go.Proofs.YtkddillihhjghaaGreat.Can
set_option linter.unusedVariables false
set_option linter.unusedSimpArgs false
open Oct
structure Fr where
  id : Int
  rem : Bool
  data : List UInt8
def zero : Fr := ⟨0, false, []⟩
def checkN (id : Int) (r : Bool) (n : Nat) : Int := if id < 0 ∨ 2047 < id then 9 else if 8 < n then 3 else if r = true ∧ 0 < n then 4 else 0
def check (f : Fr) : Int := checkN f.id f.rem f.data.length
def beforeN (i : Int) (r : Bool) (i' : Int) (r' : Bool) : Bool := decide (i < i') || (decide (i = i') && !r && r')
def before (a b : Fr) : Bool := beforeN a.id a.rem b.id b.rem
def sameB (a b : Fr) : Bool := decide (a.id = b.id) && (a.rem == b.rem) && (a.data == b.data)
theorem checkN_lt {i : Int} {r : Bool} {n : Nat} (h : checkN i r n = 0) : 0 ≤ i ∧ i ≤ 2047 ∧ n ≤ 8 ∧ (r = true → n = 0) := by
  unfold checkN at h
  split at h
  · cases h
  · split at h
    · cases h
    · split at h
      · cases h
      · rename_i h1 h2 h3
        refine ⟨by omega, by omega, by omega, fun hr => ?_⟩
        rcases Nat.eq_zero_or_pos n with h0 | h0
        · exact h0
        · exact absurd ⟨hr, h0⟩ h3
theorem checkN_zero {i : Int} {r : Bool} {n : Nat} (h1 : 0 ≤ i) (h2 : i ≤ 2047) (h3 : n ≤ 8) (h4 : r = true → n = 0) : checkN i r n = 0 := by
  unfold checkN
  rw [if_neg (by omega), if_neg (by omega), if_neg (fun h => by have := h4 h.1; omega)]
theorem checkN_range (i : Int) (r : Bool) (n : Nat) : checkN i r n = 0 ∨ checkN i r n = 3 ∨ checkN i r n = 4 ∨ checkN i r n = 9 := by
  unfold checkN
  split
  · simp
  · split
    · simp
    · split <;> simp
theorem sameB_iff (a b : Fr) : sameB a b = true ↔ a = b := by
  obtain ⟨i, r, l⟩ := a
  obtain ⟨i', r', l'⟩ := b
  unfold sameB
  simp [and_assoc]
theorem sameB_refl (a : Fr) : sameB a a = true := (sameB_iff a a).2 rfl

/-- An Id's three digits. -/
def idS (i : Int) : List UInt8 := [dig ((i / 256).toNat % 16), dig ((i % 256).toNat / 16), dig ((i % 256).toNat % 16)]
def showS (f : Fr) : List UInt8 × Int := if check f = 0 then (idS f.id ++ [35] ++ (if f.rem = true then [82] else hexS f.data), 0) else ([], check f)
/-- The Id with which a text begins. -/
def id3 (s : List UInt8) : Option Nat :=
  match nib (s.getD 0 0), nib (s.getD 1 0), nib (s.getD 2 0) with
  | some x, some y, some z => some (256 * x + 16 * y + z)
  | _, _, _ => none
def nv (c : UInt8) : Nat := (nib c).getD 0
def idv (s : List UInt8) : Nat → Nat
  | 0 => 0
  | k + 1 => 16 * idv s k + nv (s.getD k 0)
theorem nv_lt (c : UInt8) : nv c < 16 := by
  unfold nv
  cases h : nib c with
  | none => decide
  | some k => exact nib_lt h
theorem idv_lt (s : List UInt8) : ∀ k, idv s k < 16 ^ k
  | 0 => by simp [idv]
  | k + 1 => by
    have h1 := idv_lt s k
    have h2 := nv_lt (s.getD k 0)
    rw [idv, Nat.pow_succ]
    omega
def idOk (s : List UInt8) : Prop := 4 ≤ s.length ∧ s.getD 3 0 = 35 ∧ ∀ j, j < 3 → nib (s.getD j 0) ≠ none
theorem id3_ok {s : List UInt8} (h : ∀ j, j < 3 → nib (s.getD j 0) ≠ none) : id3 s = some (idv s 3) := by
  have h0 := h 0 (by omega); have h1 := h 1 (by omega); have h2 := h 2 (by omega)
  unfold id3
  cases e0 : nib (s.getD 0 0) with
  | none => exact absurd e0 h0
  | some x => cases e1 : nib (s.getD 1 0) with
    | none => exact absurd e1 h1
    | some y => cases e2 : nib (s.getD 2 0) with
      | none => exact absurd e2 h2
      | some z =>
        simp only [idv, nv, e0, e1, e2, Option.getD_some]
        congr 1
        omega
theorem id3_bad {s : List UInt8} {j : Nat} (hj : j < 3) (h : nib (s.getD j 0) = none) : id3 s = none := by
  unfold id3
  rcases (show j = 0 ∨ j = 1 ∨ j = 2 by omega) with rfl | rfl | rfl <;> rw [h]
  · cases nib (s.getD 0 0) <;> rfl
  · cases nib (s.getD 0 0) <;> cases nib (s.getD 1 0) <;> rfl
def chk (f : Fr) : Fr × Int := if check f = 0 then (f, 0) else (zero, check f)
def parseS (s : List UInt8) : Fr × Int :=
  if 4 ≤ s.length ∧ s.getD 3 0 = 35 then
    match id3 s with
    | none => (zero, 4)
    | some n => if s.drop 4 = [82] then chk ⟨n, true, []⟩ else
      match pairs (s.drop 4) with
      | none => (zero, 4)
      | some d => chk ⟨n, false, d⟩
  else (zero, 4)
theorem parseS_bad {s : List UInt8} (h : ¬ idOk s) : parseS s = (zero, 4) := by
  unfold parseS
  split
  · rename_i h1
    have : ∃ j, j < 3 ∧ nib (s.getD j 0) = none := by
      apply Classical.byContradiction
      intro hc
      exact h ⟨h1.1, h1.2, fun j hj e => hc ⟨j, hj, e⟩⟩
    obtain ⟨j, hj, e⟩ := this
    rw [id3_bad hj e]
  · rfl
theorem parseS_ok {s : List UInt8} (h : idOk s) : parseS s = if s.drop 4 = [82] then chk ⟨(idv s 3 : Nat), true, []⟩ else
      match pairs (s.drop 4) with
      | none => (zero, 4)
      | some d => chk ⟨(idv s 3 : Nat), false, d⟩ := by
  unfold parseS
  rw [if_pos ⟨h.1, h.2.1⟩, id3_ok h.2.2]
theorem take3 {s : List UInt8} (h : 4 ≤ s.length) : s.take 3 = [s.getD 0 0, s.getD 1 0, s.getD 2 0] := by
  match s, h with
  | a :: b :: c :: d :: r, _ => rfl
theorem pairs_id {s : List UInt8} (h : 4 ≤ s.length) (hn : ∀ j, j < 3 → nib (s.getD j 0) ≠ none) :
    ∃ x y : UInt8, pairs (48 :: s.take 3) = some [x, y] ∧ 256 * x.toNat + y.toNat = idv s 3 := by
  rw [take3 h]
  have h0 := hn 0 (by omega); have h1 := hn 1 (by omega); have h2 := hn 2 (by omega)
  cases e0 : nib (s.getD 0 0) with
  | none => exact absurd e0 h0
  | some x => cases e1 : nib (s.getD 1 0) with
    | none => exact absurd e1 h1
    | some y => cases e2 : nib (s.getD 2 0) with
      | none => exact absurd e2 h2
      | some z =>
        have a := nib_lt e0; have b := nib_lt e1; have c := nib_lt e2
        have e48 : nib 48 = some 0 := by decide
        refine ⟨UInt8.ofNat (16 * 0 + x), UInt8.ofNat (16 * y + z), ?_, ?_⟩
        · simp only [pairs, e48, e0, e1, e2]
        · simp only [idv, nv, e0, e1, e2, Option.getD_some, UInt8.toNat_ofNat']
          omega
theorem pairs_id_bad {s : List UInt8} (h : 4 ≤ s.length) {j : Nat} (hj : j < 3) (hb : nib (s.getD j 0) = none) : pairs (48 :: s.take 3) = none := by
  rw [take3 h]
  have e48 : nib 48 = some 0 := by decide
  rcases (show j = 0 ∨ j = 1 ∨ j = 2 by omega) with rfl | rfl | rfl
  · simp only [pairs, e48, hb]
  · simp only [pairs, hb]
    cases nib (s.getD 0 0) <;> rfl
  · simp only [pairs, hb]
    cases nib (s.getD 0 0) <;> cases nib (s.getD 1 0) <;> rfl
/-- The first line, and the rest behind it. -/
def lineS : List UInt8 → Option (List UInt8 × List UInt8)
  | [] => none
  | c :: s => if c = 10 then some ([], s) else match lineS s with
    | none => none
    | some (a, b) => some (c :: a, b)
theorem lineS_len : ∀ {s a b : List UInt8}, lineS s = some (a, b) → s = a ++ 10 :: b
  | [], _, _, h => by simp [lineS] at h
  | c :: s, a, b, h => by
    unfold lineS at h
    split at h
    · rename_i hc
      injection h with h
      injection h with h1 h2
      subst h1 h2 hc
      rfl
    · split at h
      · cases h
      · rename_i a' b' he
        injection h with h
        injection h with h1 h2
        subst h1 h2
        rw [lineS_len he]
        rfl
/-- The frames of a text: the frames so far in l. -/
def linesF : Nat → List UInt8 → List Fr → List Fr × Int × Nat
  | 0, _, l => (l, 0, 0)
  | k + 1, s, l => if s = [] then (l, 0, 0) else match lineS s with
    | none => ([], 4, l.length)
    | some (a, b) => if (parseS a).2 = 0 then linesF k b (l ++ [(parseS a).1]) else ([], (parseS a).2, l.length)
def linesS (s : List UInt8) : List Fr × Int × Nat := linesF (s.length + 1) s []
def textF : List Fr → List UInt8 → List UInt8 × Int
  | [], t => (t, 0)
  | f :: l, t => if (showS f).2 = 0 then textF l (t ++ ((showS f).1 ++ [10])) else ([], (showS f).2)
def textS (l : List Fr) : List UInt8 × Int := textF l []
def allB : List Fr → List Fr → Bool
  | [], [] => true
  | a :: l, b :: m => sameB a b && allB l m
  | _, _ => false
end Go.Proofs.YtkddillihhjghaaGreat.Can
/-
  Frames in memory: an argument that is a frame, a slice of frames.
  Conditions: none.
-/
namespace Go.Proofs.YtkddillihhjghaaGreat
set_option linter.unusedVariables false
set_option linter.unusedSimpArgs false
open Go.ChangeShapes Go.WideShapes Go.ChangeAt Go.RowKit
theorem alloc_three (w : World) (o o' o'' : Obj) : Below w.heap.size w (((w.alloc o).alloc o').alloc o'') := ((((Below.refl _ w).alloc (Nat.le_refl _) o).alloc (by simp) o').alloc (by simp; omega) o'')
/-- The cells of a frame. -/
def FrC (w : World) (B : Nat) (f : Can.Fr) (cs : List Value) : Prop := ∃ A n c, cs = [.int .i64 f.id, .bool f.rem, .slice A n c] ∧ RB w B A n c f.data
theorem FrC.keep {w w' : World} {B : Nat} {f : Can.Fr} {cs : List Value} (h : FrC w B f cs) (hk : ∀ p : Addr, p.block < B → w'.cell? p = w.cell? p) : FrC w' B f cs := by
  obtain ⟨A, n, c, h1, h2⟩ := h
  exact ⟨A, n, c, h1, h2.keep hk⟩
theorem FrC.below {w w' : World} {B : Nat} {f : Can.Fr} {cs : List Value} (h : FrC w B f cs) (hb : Below B w w') : FrC w' B f cs := h.keep fun _ hp => hb.cell hp
theorem FrC.more {w : World} {B B' : Nat} {f : Can.Fr} {cs : List Value} (h : FrC w B f cs) (hB : B ≤ B') : FrC w B' f cs := by
  obtain ⟨A, n, c, h1, h2⟩ := h
  exact ⟨A, n, c, h1, h2.more hB⟩
theorem FrC.len {w : World} {B : Nat} {f : Can.Fr} {cs : List Value} (h : FrC w B f cs) : cs.length = 3 := by
  obtain ⟨A, n, c, rfl, _⟩ := h
  rfl
/-- A slice of frames. -/
def RF (w : World) (B : Nat) (A : Option Addr) (n c : Nat) (fs : List Can.Fr) : Prop := ∃ xs, RV w B 3 A n c xs ∧ Rows (FrC w B) 3 fs xs
section
variable {w w' : World} {B B' n c : Nat} {A : Option Addr} {fs : List Can.Fr}
theorem RF.len (h : RF w B A n c fs) : fs.length = n := by
  obtain ⟨xs, h1, h2⟩ := h
  have := h1.len
  have := h2.len
  omega
theorem RF.lt (h : RF w B A n c fs) : n ≤ 9223372036854775807 := by
  obtain ⟨xs, h1, h2⟩ := h
  exact Nat.le_trans h1.le h1.cap
theorem RF.below (h : RF w B A n c fs) (hb : Below B w w') : RF w' B A n c fs := by
  obtain ⟨xs, h1, h2⟩ := h
  exact ⟨xs, h1.below hb, h2.imp fun _ _ hr => hr.below hb⟩
theorem RF.keep (h : RF w B A n c fs) (hk : ∀ p : Addr, p.block < B → w'.cell? p = w.cell? p) : RF w' B A n c fs := by
  obtain ⟨xs, h1, h2⟩ := h
  exact ⟨xs, h1.keep hk, h2.imp fun _ _ hr => hr.keep hk⟩
theorem RF.more (h : RF w B A n c fs) (hB : B ≤ B') : RF w B' A n c fs := by
  obtain ⟨xs, h1, h2⟩ := h
  exact ⟨xs, h1.more hB, h2.imp fun _ _ hr => hr.more hB⟩
theorem RF.drew (h : RF w B A n c fs) : RF w.drew B A n c fs := h.keep fun _ _ => rfl
theorem RF.at_ (h : RF w B A n c fs) {i : Nat} (hi : i < n) : ∃ b o A' n' c', A = some ⟨b, o, none⟩ ∧ b < B ∧ w.cell? ⟨b, o + i * 3, none⟩ = some (.int .i64 (fs.getD i Can.zero).id) ∧
    w.cell? ⟨b, o + i * 3 + 1, none⟩ = some (.bool (fs.getD i Can.zero).rem) ∧ w.cell? ⟨b, o + i * 3 + 2, none⟩ = some (.slice A' n' c') ∧ RB w B A' n' c' (fs.getD i Can.zero).data := by
  have hl := h.len
  obtain ⟨xs, h1, h2⟩ := h
  obtain ⟨b, o, rfl, hb, hc⟩ := h1.at_ (by omega)
  have hf : fs[i]? = some (fs.getD i Can.zero) := by simp [List.getD, List.getElem?_eq_getElem (show i < fs.length by omega)]
  obtain ⟨A', n', c', e, hr⟩ := h2.2 i _ hf
  have e0 : ∀ j, ((xs.drop (i * 3)).take 3)[j]? = if j < 3 then xs[i * 3 + j]? else none := fun j => by rw [List.getElem?_take, List.getElem?_drop]
  rw [e] at e0
  refine ⟨b, o, A', n', c', rfl, hb, ?_, ?_, ?_, hr⟩
  · have := hc (i * 3) _ (by have := e0 0; simpa using this.symm)
    exact this
  · have := hc (i * 3 + 1) _ (by have := e0 1; simpa using this.symm)
    rw [← Nat.add_assoc] at this
    exact this
  · have := hc (i * 3 + 2) _ (by have := e0 2; simpa using this.symm)
    rw [← Nat.add_assoc] at this
    exact this
end
section
variable {H : Type} {enc : TypeId × Value → H} {w : World} {spare : Nat → Bool} {held : Bool}
set_option maxRecDepth 100000 in
theorem cells_frame {fuel : Nat} {cs : List Value} {x : DataW H × List MemPlace} (h : DataW.trod enc Tryz.prog w 0 spare held fuel 51 cs = some x) : ∃ f, FrC w w.heap.size f cs ∧ (Lit.int .i64 f.id).wf = true := by
  have h3 : cs.length = 3 := trod_len Tryz.underlying51 h (by kernel_rfl)
  match cs, h3 with
  | [a, b, d], _ =>
    obtain ⟨_, _, t0⟩ := trod_one Tryz.underlying51 h 0 3 0 a rfl (by kernel_rfl) rfl
    obtain ⟨_, _, t1⟩ := trod_one Tryz.underlying51 h 1 4 1 b rfl (by kernel_rfl) rfl
    obtain ⟨_, _, t2⟩ := trod_one Tryz.underlying51 h 2 49 2 d rfl (by kernel_rfl) rfl
    obtain ⟨i, rfl, hw⟩ := cell_int Tryz.underlying3 t0
    obtain ⟨r, rfl⟩ := cell_bool Tryz.underlying4 t1
    obtain ⟨A, n, c, l, rfl, hr⟩ := cell_bytes Tryz.underlying49 Tryz.underlying5 (by kernel_rfl) t2
    exact ⟨⟨i, r, l⟩, ⟨A, n, c, rfl, hr⟩, hw⟩
set_option maxRecDepth 100000 in
theorem open_frame {r : Reach} {b0 : Nat} {v : Value} {d : DataW H} {p : List MemPlace} (hv : Value.okWide Tryz.prog w r b0 51 v) (h : DataW.Trod enc Tryz.prog w 0 spare held 51 v d p) :
    ∃ (i : Int) (r : Bool) (A : Option Addr) (n c : Nat) (l : List UInt8), v = .agg #[.int .i64 i, .bool r, .slice A n c] ∧ (Lit.int .i64 i).wf = true ∧ RB w w.heap.size A n c l := by
  obtain ⟨cs, rfl, hsz⟩ := okWide_struct Tryz.underlying51 hv
  obtain ⟨fuel, hf⟩ := h
  obtain ⟨f, ⟨A, n, c, e, hr⟩, hw⟩ := cells_frame hf
  have e : cs.toList = [.int .i64 f.id, .bool f.rem, .slice A n c] := by simpa [Value.cells] using e
  refine ⟨f.id, f.rem, A, n, c, f.data, ?_, hw, hr⟩
  rw [← Array.toArray_toList (xs := cs), e]
end
end Go.Proofs.YtkddillihhjghaaGreat
/-
  Arguments of the statements of layer 31; light, given.
  Conditions: none.
-/
namespace Go.Proofs.YtkddillihhjghaaGreat
set_option linter.unusedVariables false
set_option linter.unusedSimpArgs false
open Go.ChangeShapes Go.WideShapes Go.ChangeAt Go.RowKit
/-- Something that happens. -/
structure ROp where
  kind : Int
  id : Int
  rem : Bool
  data : List UInt8
  own : Bool
def rop0 : ROp := ⟨0, 0, false, [], false⟩
def ROpC (w : World) (B : Nat) (f : ROp) (cs : List Value) : Prop := ∃ A n c, cs = [.int .i64 f.kind, .int .i64 f.id, .bool f.rem, .slice A n c, .bool f.own] ∧ RB w B A n c f.data
def ROps (w : World) (B B' : Nat) (A : Option Addr) (n c : Nat) (fs : List ROp) : Prop := RS (ROpC w B') w B 5 A n c fs
theorem ROpC.below {w w' : World} {B : Nat} {f : ROp} {cs : List Value} (hb : Below B w w') (h : ROpC w B f cs) : ROpC w' B f cs := by
  obtain ⟨A, n, c, h1, h2⟩ := h
  exact ⟨A, n, c, h1, h2.below hb⟩
section
variable {w w' : World} {B B' n c : Nat} {A : Option Addr} {fs : List ROp}
theorem ROps.len (h : ROps w B B' A n c fs) : fs.length = n := RS.len h (by decide)
theorem ROps.lt (h : ROps w B B' A n c fs) : n ≤ 9223372036854775807 := RS.lt h
theorem ROps.below (h : ROps w B B' A n c fs) (hb : Below B w w') (hB : B' ≤ B) : ROps w' B B' A n c fs := RS.below h hb fun _ _ h => h.below (hb.mono hB)
theorem ROps.at_ (h : ROps w B B' A n c fs) {i : Nat} (hi : i < n) : ∃ b o A' n' c', A = some ⟨b, o, none⟩ ∧ b < B ∧ w.cell? ⟨b, o + i * 5, none⟩ = some (.int .i64 (fs.getD i rop0).kind) ∧
    w.cell? ⟨b, o + i * 5 + 1, none⟩ = some (.int .i64 (fs.getD i rop0).id) ∧ w.cell? ⟨b, o + i * 5 + 2, none⟩ = some (.bool (fs.getD i rop0).rem) ∧ w.cell? ⟨b, o + i * 5 + 3, none⟩ = some (.slice A' n' c') ∧ w.cell? ⟨b, o + i * 5 + 4, none⟩ = some (.bool (fs.getD i rop0).own) ∧ RB w B' A' n' c' (fs.getD i rop0).data := by
  have hl := h.len
  have hf : fs[i]? = some (fs.getD i rop0) := by simp [List.getD, List.getElem?_eq_getElem (show i < fs.length by omega)]
  obtain ⟨b, o, cs, rfl, hb, ⟨A', n', c', rfl, hr⟩, hc⟩ := RS.at_ h (by decide) hf
  exact ⟨b, o, A', n', c', rfl, hb, hc 0 _ (by decide) rfl, hc 1 _ (by decide) rfl, hc 2 _ (by decide) rfl, hc 3 _ (by decide) rfl, hc 4 _ (by decide) rfl, hr⟩
end
section
variable {H : Type} {enc : TypeId × Value → H} {w : World} {spare : Nat → Bool} {held : Bool}
set_option maxRecDepth 100000 in
theorem cells_rconfig {fuel : Nat} {cs : List Value} {x : DataW H × List MemPlace} (h : DataW.trod enc Tryz.prog w 0 spare held fuel 26 cs = some x) :
    ∃ (v : Nat) (t : Int) (A : Option Addr) (n c : Nat) (ws : List Nat), cs = [.int .u32 (v : Int), .int .i64 t, .slice A n c] ∧ v < 4294967296 ∧ RW w w.heap.size A n c ws ∧ (∀ x ∈ ws, x < 4294967296) ∧ (Lit.int .i64 t).wf = true := by
  have h3 : cs.length = 3 := trod_len Tryz.underlying26 h (by kernel_rfl)
  match cs, h3 with
  | [a, b, d], _ =>
    obtain ⟨_, _, t0⟩ := trod_one Tryz.underlying26 h 0 23 0 a rfl (by kernel_rfl) rfl
    obtain ⟨_, _, t1⟩ := trod_one Tryz.underlying26 h 1 3 1 b rfl (by kernel_rfl) rfl
    obtain ⟨_, _, t2⟩ := trod_one Tryz.underlying26 h 2 24 2 d rfl (by kernel_rfl) rfl
    obtain ⟨i, rfl, wi⟩ := cell_int Tryz.underlying23 t0
    obtain ⟨j, rfl, wj⟩ := cell_int Tryz.underlying3 t1
    obtain ⟨A, n, c, ws, rfl, hr, hwl⟩ := cell_words t2
    obtain ⟨b1, b2⟩ := bounds_u32 wi
    obtain ⟨m, rfl⟩ := Int.eq_ofNat_of_zero_le b1
    exact ⟨m, j, A, n, c, ws, rfl, by omega, hr, hwl, wj⟩
set_option maxRecDepth 100000 in
theorem open_rconfig {r : Reach} {b0 : Nat} {v : Value} {d : DataW H} {p : List MemPlace} (hv : Value.okWide Tryz.prog w r b0 26 v) (h : DataW.Trod enc Tryz.prog w 0 spare held 26 v d p) :
    ∃ (v1 : Nat) (t : Int) (A : Option Addr) (n c : Nat) (ws : List Nat), v = .agg #[.int .u32 (v1 : Int), .int .i64 t, .slice A n c] ∧ v1 < 4294967296 ∧ RW w w.heap.size A n c ws ∧ (∀ x ∈ ws, x < 4294967296) ∧ (Lit.int .i64 t).wf = true := by
  obtain ⟨cs, rfl, hsz⟩ := okWide_struct Tryz.underlying26 hv
  obtain ⟨fuel, hf⟩ := h
  have hf' : DataW.trod enc Tryz.prog w 0 spare held fuel 26 cs.toList = some (d, p) := by simpa [Value.cells] using hf
  obtain ⟨v1, t, A, n, c, ws, e, h1, h2, h3, h4⟩ := cells_rconfig hf'
  refine ⟨v1, t, A, n, c, ws, ?_, h1, h2, h3, h4⟩
  rw [← Array.toArray_toList (xs := cs), e]
theorem cells_rop {fuel : Nat} {cs : List Value} {x : DataW H × List MemPlace} (h : DataW.trod enc Tryz.prog w 0 spare held fuel 53 cs = some x) : ∃ f, ROpC w w.heap.size f cs := by
  have h3 : cs.length = 5 := trod_len Tryz.underlying53 h (by kernel_rfl)
  match cs, h3 with
  | [a, b1, b2, b3, d], _ =>
    obtain ⟨_, _, t0⟩ := trod_one Tryz.underlying53 h 0 3 0 a rfl (by kernel_rfl) rfl
    obtain ⟨_, _, t1⟩ := trod_part Tryz.underlying53 h 1 51 1 3 rfl (by kernel_rfl)
    obtain ⟨_, _, t2⟩ := trod_one Tryz.underlying53 h 2 4 4 d rfl (by kernel_rfl) rfl
    obtain ⟨i, rfl, _⟩ := cell_int Tryz.underlying3 t0
    obtain ⟨f, ⟨A, n, c, e1, hr⟩, _⟩ := cells_frame t1
    obtain ⟨o, rfl⟩ := cell_bool Tryz.underlying4 t2
    have e2 : [b1, b2, b3] = [.int .i64 f.id, .bool f.rem, .slice A n c] := e1
    injection e2 with e3 e4
    injection e4 with e4 e5
    injection e5 with e5 _
    subst e3 e4 e5
    exact ⟨⟨i, f.id, f.rem, f.data, o⟩, A, n, c, rfl, hr⟩
set_option maxRecDepth 100000 in
theorem open_case31 {r : Reach} {b0 : Nat} {v : Value} {d : DataW H} {p : List MemPlace} (hv : Value.okWide Tryz.prog w r b0 29 v) (h : DataW.Trod enc Tryz.prog w 0 spare held 29 v d p) :
    ∃ (A0 A1 A2 : Option Addr) (n0 c0 n1 c1 n2 c2 v1 : Nat) (t : Int) (es : List Ent.En) (ws : List Nat) (ops : List ROp), v = .agg #[.slice A0 n0 c0, .int .u32 (v1 : Int), .int .i64 t, .slice A1 n1 c1, .slice A2 n2 c2] ∧
      REn w w.heap.size w.heap.size A0 n0 c0 es ∧ (∀ e ∈ es, e.name.length ≤ 9223372036854775807) ∧ v1 < 4294967296 ∧ RW w w.heap.size A1 n1 c1 ws ∧ (∀ x ∈ ws, x < 4294967296) ∧ (Lit.int .i64 t).wf = true ∧ ROps w w.heap.size w.heap.size A2 n2 c2 ops := by
  obtain ⟨cs, rfl, hsz⟩ := okWide_struct Tryz.underlying29 hv
  obtain ⟨fuel, hf⟩ := h
  have hf' : DataW.trod enc Tryz.prog w 0 spare held fuel 29 cs.toList = some (d, p) := by simpa [Value.cells] using hf
  have h3 : cs.toList.length = 5 := trod_len Tryz.underlying29 hf' (by kernel_rfl)
  obtain ⟨l, hl⟩ : ∃ l, l = cs.toList := ⟨_, rfl⟩
  rw [← hl] at h3 hf'
  match l, h3 with
  | [a, b1, b2, b3, e], _ =>
    obtain ⟨_, _, t0⟩ := trod_one Tryz.underlying29 hf' 0 22 0 a rfl (by kernel_rfl) rfl
    obtain ⟨_, _, t1⟩ := trod_part Tryz.underlying29 hf' 1 26 1 3 rfl (by kernel_rfl)
    obtain ⟨_, _, t2⟩ := trod_one Tryz.underlying29 hf' 2 27 4 e rfl (by kernel_rfl) rfl
    obtain ⟨A0, n0, c0, es, rfl, r0, r0'⟩ := cell_entries t0
    obtain ⟨v1, t, A1, n1, c1, ws, e1, h1, r1, r1', wt⟩ := cells_rconfig t1
    obtain ⟨A2, n2, c2, rfl⟩ := cell_slice Tryz.underlying27 t2
    obtain ⟨ops, xs, hlo, o1, o2⟩ := open_rows (ROpC w w.heap.size) Tryz.underlying27 (show Tryz.prog.cellsOf 53 = 5 by kernel_rfl) (by decide) (fun _ _ _ h => cells_rop h) t2
    have e2 : [b1, b2, b3] = [.int .u32 (v1 : Int), .int .i64 t, .slice A1 n1 c1] := e1
    injection e2 with e3 e4
    injection e4 with e4 e5
    injection e5 with e5 _
    subst e3 e4 e5
    refine ⟨A0, A1, A2, n0, c0, n1, c1, n2, c2, v1, t, es, ws, ops, ?_, r0, r0', h1, r1, r1', wt, ⟨xs, o1, o2⟩⟩
    rw [← Array.toArray_toList (xs := cs), ← hl]
end
set_option maxRecDepth 100000 in
set_option maxHeartbeats 1000000 in
theorem given31_any (v : Nat) (t : Int) (A : Option Addr) (n c : Nat) (w : World) : Calls Tryz.prog 8 #[.agg #[.int .u32 (v : Int), .int .i64 t, .slice A n c]] w fun e w' => e = .returned (.agg #[.int .u32 (v : Int), .int .i64 t, .slice A n c]) ∧ Below w.heap.size w w' := by
  have b0 := alloc_two w (.cells #[.int .u32 (v : Int), .int .i64 t, .slice A n c] 26) (.cells #[.int .u32 0, .int .i64 0, .slice none 0 0] 39)
  have KF := ((Blk.new w 26 #[.int .u32 (v : Int), .int .i64 t, .slice A n c]).alloc (.cells #[.int .u32 0, .int .i64 0, .slice none 0 0] 39)).three
  have KO := Blk.new (w.alloc (.cells #[.int .u32 (v : Int), .int .i64 t, .slice A n c] 26)) 39 #[.int .u32 0, .int .i64 0, .slice none 0 0]
  rw [World.size_alloc] at KO
  have FO := KO.three
  go_enter Tryz.func8, Tryz.ntmps8
  go_wp2_with fail
  have R0 := Blk.new (w.alloc (.cells #[.int .u32 (v : Int), .int .i64 t, .slice A n c] 26)) 39 #[.int .u32 (v : Int), .int .i64 t, .slice A n c]
  rw [World.size_alloc] at R0
  have R := R0.three
  exact bodyPost_ret (v := .agg #[.int .u32 (v : Int), .int .i64 t, .slice A n c]) (by simp [results, Tryz.results8, go_sem, R]) rfl ⟨rfl, alloc_two _ _ _⟩
end Go.Proofs.YtkddillihhjghaaGreat
/-
  Walk: light of the statements of layer 31.
  Conditions: none.
-/
namespace Go.Proofs.YtkddillihhjghaaGreat
set_option linter.unusedVariables false
set_option linter.unusedSimpArgs false
open Go.RowKit
def Light31P (n0 n1 n2 : Nat) (es : List Ent.En) (ops : List ROp) (w : World) (e : Ending) (w' : World) : Prop := ∃ b : Bool, e = .returned (.bool b) ∧ Below w.heap.size w w' ∧ (b = true → n0 ≤ 200 ∧ (∀ e ∈ es, e.name.length ≤ 1000 ∧ e.dflt.length ≤ 1000) ∧ n1 ≤ 100 ∧ ∀ i, i < n2 → i < 60 → (ops.getD i rop0).data.length ≤ 100)
theorem light31_no {n0 n1 n2 : Nat} {es : List Ent.En} {ops : List ROp} {w w' : World} (hb : Below w.heap.size w w') : Light31P n0 n1 n2 es ops w (.returned (.bool false)) w' := ⟨false, rfl, hb, fun h => by cases h⟩
theorem light31_yes {n0 n1 n2 : Nat} {es : List Ent.En} {ops : List ROp} {w w' : World} (hb : Below w.heap.size w w') (h : n0 ≤ 200 ∧ (∀ e ∈ es, e.name.length ≤ 1000 ∧ e.dflt.length ≤ 1000) ∧ n1 ≤ 100 ∧ ∀ i, i < n2 → i < 60 → (ops.getD i rop0).data.length ≤ 100) : Light31P n0 n1 n2 es ops w (.returned (.bool true)) w' := ⟨true, rfl, hb, fun _ => h⟩
set_option maxRecDepth 100000 in
set_option maxHeartbeats 2000000 in
theorem light31_any {A0 A1 A2 : Option Addr} {n0 c0 n1 c1 n2 c2 B : Nat} {es : List Ent.En} {ops : List ROp} (v : Nat) (t : Int) (w : World) (h0 : REn w B B A0 n0 c0 es) (hnm : ∀ e ∈ es, e.name.length ≤ 9223372036854775807) (h2 : ROps w B B A2 n2 c2 ops) (hB : B ≤ w.heap.size) :
    Calls Tryz.prog 4 #[.agg #[.slice A0 n0 c0, .int .u32 (v : Int), .int .i64 t, .slice A1 n1 c1, .slice A2 n2 c2]] w (Light31P n0 n1 n2 es ops w) := by
  have b0 := alloc_one w (.cells #[.slice A0 n0 c0, .int .u32 (v : Int), .int .i64 t, .slice A1 n1 c1, .slice A2 n2 c2] 29)
  have K := Blk.new w 29 #[.slice A0 n0 c0, .int .u32 (v : Int), .int .i64 t, .slice A1 n1 c1, .slice A2 n2 c2]
  have K5 := K.five
  have L15 := Lib.hid (Light15_any _ (h0.below (b0.mono hB) (Nat.le_refl _)) hnm)
  have h2' := h2.below (b0.mono hB) (Nat.le_refl _)
  have hl := h2.len
  have hn := h2.lt
  go_enter Tryz.func4, Tryz.ntmps4
  go_wp2_with fail
  refine (L15.out).mono ?_
  rintro e _ ⟨bl, rfl, rfl, hbl⟩
  cases bl
  · clear hbl
    go_wp2_with fail
    go_ret
    exact light31_no b0
  · obtain ⟨hes0, hes⟩ := hbl rfl
    clear hbl
    by_cases h100 : 100 < n1
    · go_wp2_with fail
      go_ret
      exact light31_no b0
    · have HES := Lib.hid (show n0 ≤ 200 ∧ (∀ e ∈ es, e.name.length ≤ 1000 ∧ e.dflt.length ≤ 1000) ∧ n1 ≤ 100 from ⟨hes0, hes, by omega⟩)
      clear hes hes0 hnm h0 h2 L15
      generalize w.alloc (.cells #[.slice A0 n0 c0, .int .u32 (v : Int), .int .i64 t, .slice A1 n1 c1, .slice A2 n2 c2] 29) = w1 at *
      go_wp2_with fail
      go_loop [3] (fun i => ∃ k : Nat, k ≤ n2 ∧ k ≤ 60 ∧ i = .int .i64 k ∧ ∀ j, j < k → (ops.getD j rop0).data.length ≤ 100) (fun i => n2 - (intOf i).toNat)
      case atStart => exact ⟨0, by omega, by omega, rfl, fun _ h => absurd h (by omega)⟩
      case round =>
        obtain ⟨k, hk, hk6, rfl, hall⟩ := hrel
        have HALL := Lib.hid hall; clear hall
        by_cases hlt : k < n2
        · by_cases h60 : k < 60
          · obtain ⟨b, o, A', n', c', rfl, hbB, q0, q1, q2, q3, q4, hr⟩ := h2'.at_ hlt
            have hrl := hr.len
            have HJ := Lib.hid (fun (h2 : n' ≤ 100) (j : Nat) (hj : j < k + 1) => show (ops.getD j rop0).data.length ≤ 100 from by
              rcases Nat.lt_or_ge j k with h | h
              · exact HALL.out j h
              · obtain rfl : j = k := by omega
                rw [hrl]; exact h2)
            clear q0 q1 q2 q4 hr hrl
            by_cases hbig : 100 < n'
            · go_wp2_with fail
              go_ret
              exact light31_no b0
            · go_wp2_with fail
              go_round
              case rel => exact ⟨k + 1, by omega, by omega, by go_num, HJ.out (by omega)⟩
              case measure => simp [intOf] <;> omega
          · go_wp2_with fail
            go_ret
            exact light31_yes b0 ⟨HES.out.1, HES.out.2.1, HES.out.2.2, fun i h1 h2 => HALL.out i (by omega)⟩
        · obtain rfl : k = n2 := by omega
          go_wp2_with fail
          go_ret
          exact light31_yes b0 ⟨HES.out.1, HES.out.2.1, HES.out.2.2, fun i h1 h2 => HALL.out i h1⟩
end Go.Proofs.YtkddillihhjghaaGreat
/-
  Walks: the references' Split and Restricted of layer 11, and why a word can not be a PDO's.
  Conditions: none.
-/
namespace Go.Proofs.YtkddillihhjghaaGreat
set_option linter.unusedVariables false
set_option linter.unusedSimpArgs false
open Go.RowKit
set_option maxRecDepth 100000 in
set_option maxHeartbeats 1000000 in
theorem RCSplit_bad (v : Nat) (hv : v < 4294967296) (h : Cob.bad v = true) (w : World) : Calls Tryz.prog 40 #[.int .u32 (v : Int)] w fun e w' => e = .returned (.tuple #[.agg #[.bool false, .bool false, .int .i64 0], .int .i64 4]) ∧ Below w.heap.size w w' := by
  have h2 : 2048 ≤ v % 1073741824 := by unfold Cob.bad at h; exact of_decide_eq_true h
  have b0 := alloc_one w (.cells #[.bool false, .bool false, .int .i64 0] 92)
  have K := Blk.new w 92 #[.bool false, .bool false, .int .i64 0]
  have F := K.three
  have e1 : Int.tmod (v : Int) 1073741824 = ((v % 1073741824 : Nat) : Int) := by rw [Int.tmod_eq_emod_of_nonneg (by omega)]; omega
  clear h
  generalize v % 1073741824 = r at *
  go_enter Tryz.func40, Tryz.ntmps40
  go_wp2_with fail
  have R := K.three
  exact bodyPost_ret (v := .tuple #[.agg #[.bool false, .bool false, .int .i64 0], .int .i64 4]) (by simp [results, Tryz.results40, go_sem, R]) rfl ⟨rfl, b0⟩
set_option maxRecDepth 100000 in
set_option maxHeartbeats 1000000 in
theorem RCSplit_ok (v : Nat) (hv : v < 4294967296) (h : Cob.bad v = false) (w : World) : Calls Tryz.prog 40 #[.int .u32 (v : Int)] w fun e w' => e = .returned (.tuple #[.agg #[.bool (Cob.off v), .bool (Cob.noR v), .int .i64 (Cob.id v : Int)], .int .i64 0]) ∧ Below w.heap.size w w' := by
  have h2 : v % 1073741824 < 2048 := by unfold Cob.bad at h; have := of_decide_eq_false h; omega
  have e1 : Int.tmod (v : Int) 1073741824 = ((v % 1073741824 : Nat) : Int) := by rw [Int.tmod_eq_emod_of_nonneg (by omega)]; omega
  have e2 : Int.tmod (v : Int) 2147483648 = ((v % 2147483648 : Nat) : Int) := by rw [Int.tmod_eq_emod_of_nonneg (by omega)]; omega
  have e3 : Int.tmod (v : Int) 2048 = (Cob.id v : Int) := by unfold Cob.id; rw [Int.tmod_eq_emod_of_nonneg (by omega)]; omega
  have f1 : decide ((2147483648 : Int) ≤ (v : Int)) = Cob.off v := by unfold Cob.off; rw [Bool.eq_iff_iff, decide_eq_true_iff, decide_eq_true_iff]; omega
  have f2 : decide ((1073741824 : Int) ≤ ((v % 2147483648 : Nat) : Int)) = Cob.noR v := by unfold Cob.noR; rw [Bool.eq_iff_iff, decide_eq_true_iff, decide_eq_true_iff]; omega
  have b0 := alloc_one w (.cells #[.bool false, .bool false, .int .i64 0] 92)
  have K := Blk.new w 92 #[.bool false, .bool false, .int .i64 0]
  have F := K.three
  have R := (Blk.new w 92 #[.bool (Cob.off v), .bool (Cob.noR v), .int .i64 (Cob.id v : Int)]).three
  generalize hr : v % 1073741824 = r at *
  generalize hq : v % 2147483648 = q at *
  generalize Cob.id v = i at *
  clear h hr hq
  by_cases c1 : (2147483648 : Int) ≤ (v : Int)
  all_goals by_cases c2 : (1073741824 : Int) ≤ (q : Int)
  all_goals
    first | rw [decide_eq_true c1] at f1 | rw [decide_eq_false c1] at f1
    first | rw [decide_eq_true c2] at f2 | rw [decide_eq_false c2] at f2
    rw [← f1, ← f2] at R ⊢
    clear f1 f2
    go_enter Tryz.func40, Tryz.ntmps40
    go_wp2_with fail
    exact bodyPost_ret (v := .tuple #[.agg #[.bool _, .bool _, .int .i64 (i : Int)], .int .i64 0]) (by simp [results, Tryz.results40, go_sem, R] <;> rfl) rfl ⟨rfl, alloc_one _ _⟩
set_option maxHeartbeats 2000000 in
theorem RRestricted_any (n : Int) (w : World) : Calls Tryz.prog 58 #[.int .i64 n] w fun e w' => e = .returned (.bool (Cob.restr n)) ∧ w = w' := by
  rcases (show (n < 128 ∨ 2047 < n ∨ (257 ≤ n ∧ n ≤ 384) ∨ (1409 ≤ n ∧ n ≤ 1535) ∨ (1537 ≤ n ∧ n ≤ 1663) ∨ (1760 ≤ n ∧ n ≤ 1791) ∨ 1792 < n) ∨ ((128 ≤ n ∧ n < 257) ∨ (384 < n ∧ n < 1409) ∨ (1535 < n ∧ n < 1537) ∨ (1663 < n ∧ n < 1760) ∨ (1791 < n ∧ n ≤ 1792)) by omega) with h | h
  · rw [show Cob.restr n = true from decide_eq_true h]
    by_cases h1 : n < 128
    · go_enter Tryz.func58, Tryz.ntmps58
      go_wp2_with fail
      go_ret
      exact ⟨rfl, rfl⟩
    · by_cases h2 : 2047 < n
      · go_enter Tryz.func58, Tryz.ntmps58
        go_wp2_with fail
        go_ret
        exact ⟨rfl, rfl⟩
      · rcases (show (257 ≤ n ∧ n ≤ 384) ∨ (1409 ≤ n ∧ n ≤ 1535) ∨ (1537 ≤ n ∧ n ≤ 1663) ∨ (1760 ≤ n ∧ n ≤ 1791) ∨ (1793 ≤ n ∧ n ≤ 2047) by omega) with ⟨h3, h4⟩ | ⟨h3, h4⟩ | ⟨h3, h4⟩ | ⟨h3, h4⟩ | ⟨h3, h4⟩
        all_goals
          clear h
          go_enter Tryz.func58, Tryz.ntmps58
          go_wp2_with fail
          go_ret
          exact ⟨rfl, rfl⟩
  · rw [show Cob.restr n = false from decide_eq_false (by omega)]
    rcases h with ⟨h3, h4⟩ | ⟨h3, h4⟩ | ⟨h3, h4⟩ | ⟨h3, h4⟩ | ⟨h3, h4⟩
    all_goals
      go_enter Tryz.func58, Tryz.ntmps58
      go_wp2_with fail
      go_ret
      exact ⟨rfl, rfl⟩
set_option maxRecDepth 100000 in
set_option maxHeartbeats 1000000 in
theorem RPlace_any (v : Nat) (hv : v < 4294967296) (w : World) : Calls Tryz.prog 38 #[.int .u32 (v : Int)] w fun e w' => e = .returned (.int .u32 (Cob.place v)) ∧ Below w.heap.size w w' := by
  unfold Cob.place
  cases hb : Cob.bad v
  · have SP := Lib.hid (fun w => RCSplit_ok v hv hb w)
    have RE := Lib.hid (fun w => RRestricted_any (Cob.id v : Int) w)
    clear hb
    simp only [Bool.false_eq_true, if_false]
    generalize Cob.restr (Cob.id v : Int) = rs at *
    generalize (Cob.id v : Int) = i at *
    generalize Cob.noR v = nr at *
    cases ho : Cob.off v
    · rw [ho] at SP
      clear ho
      cases rs
      all_goals
        simp only [Bool.false_eq_true, and_false, if_false, and_self, if_true, true_and]
        go_enter Tryz.func38, Tryz.ntmps38
        go_wp2_with fail
        refine (SP.out _).mono ?_
        rintro e w1 ⟨rfl, b1⟩
        have b2 := alloc_one w1 (.cells #[.bool false, .bool nr, .int .i64 i] 92)
        have K := (Blk.new w1 92 #[.bool false, .bool nr, .int .i64 i]).three
        go_wp2_with fail
        refine (RE.out _).mono ?_
        rintro e _ ⟨rfl, rfl⟩
        go_wp2_with fail
        go_ret
        exact ⟨rfl, below_step b1 b2 (Nat.le_refl _)⟩
    · rw [ho] at SP
      clear ho
      simp only [Bool.true_eq_false, false_and, if_false]
      go_enter Tryz.func38, Tryz.ntmps38
      go_wp2_with fail
      refine (SP.out _).mono ?_
      rintro e w1 ⟨rfl, b1⟩
      have b2 := alloc_one w1 (.cells #[.bool true, .bool nr, .int .i64 i] 92)
      have K := (Blk.new w1 92 #[.bool true, .bool nr, .int .i64 i]).three
      go_wp2_with fail
      go_ret
      exact ⟨rfl, below_step b1 b2 (Nat.le_refl _)⟩
  · have SP := Lib.hid (fun w => RCSplit_bad v hv hb w)
    clear hb
    simp only [if_true]
    go_enter Tryz.func38, Tryz.ntmps38
    go_wp2_with fail
    refine (SP.out _).mono ?_
    rintro e w1 ⟨rfl, b1⟩
    have b2 := alloc_one w1 (.cells #[.bool false, .bool false, .int .i64 0] 92)
    have K := (Blk.new w1 92 #[.bool false, .bool false, .int .i64 0]).three
    go_wp2_with fail
    go_ret
    exact ⟨rfl, below_step b1 b2 (Nat.le_refl _)⟩
end Go.Proofs.YtkddillihhjghaaGreat
