/-
  Walks: bits.Unpack.
  Conditions: none.
-/
import Derived.Test.YtecgahhdbhdplaaBitPack
import Derived.Test.YtecgahhdbhdplaaFoot
namespace Go.Proofs.Ytecgahhdbhdplaa
set_option linter.unusedVariables false
set_option linter.unusedSimpArgs false
open Go.RowKit
theorem lb_take : ∀ (m k v : Nat), k ≤ m → (Oct.lb m v).take k = Oct.lb k v
  | 0, k, v, h => by
    obtain rfl : k = 0 := by omega
    simp [Oct.lb]
  | m + 1, k, v, h => by
    rcases Nat.lt_or_ge m k with h1 | h1
    · obtain rfl : k = m + 1 := by omega
      exact List.take_of_length_le (by rw [Oct.lb_length]; omega)
    · rw [Oct.lb, List.take_append_of_le_length (by rw [Oct.lb_length]; omega), lb_take m k v h1]
theorem Put8 (v : Nat) (w : World) (hv : v < 18446744073709551616) :
    Calls Try.prog 36 #[.slice none 0 0, .int .i64 8, .int .u64 (v : Int)] w fun e w' => ∃ A1 c1, e = .returned (.tuple #[.slice A1 8 c1, .int .i64 0]) ∧ OB w' w.heap.size A1 8 c1 (Oct.lb 8 v) ∧ Below w.heap.size w w' := by
  have := Put_ok 8 v w (RB.none_ (B := 0)) (by omega) (Nat.zero_le _) (by omega) (by omega) hv (by omega)
  simp only [Nat.zero_add, List.nil_append] at this
  exact this
def UnpPost (T : Nat) (p : List Bt.Fld × Int) (w : World) (e : Ending) (w' : World) : Prop := ∃ A c, e = .returned (.tuple #[.slice A p.1.length c, .int .i64 p.2]) ∧ OS (FlW w' w.heap.size) w' w.heap.size T 2 A p.1.length c p.1 ∧ Below w.heap.size w w'
theorem unp_bad {T : Nat} {p : List Bt.Fld × Int} {w w' : World} {x : Int} (h : p = ([], x)) (hb : Below w.heap.size w w') : UnpPost T p w (.returned (.tuple #[.slice none 0 0, .int .i64 x])) w' := by
  subst h
  exact ⟨none, 0, rfl, OS.none_ _ _ _ _, hb⟩
theorem unp_fine {T : Nat} {p : List Bt.Fld × Int} {w w' : World} {A : Option Addr} {n c : Nat} {l : List Bt.Fld} (h : p = (l, 0)) (hn : l.length = n) (ho : OS (FlW w' w.heap.size) w' w.heap.size T 2 A n c l) (hb : Below w.heap.size w w') : UnpPost T p w (.returned (.tuple #[.slice A n c, .int .i64 0])) w' := by
  subst h hn
  exact ⟨A, c, rfl, ho, hb⟩
theorem unpackS_bad {b : List UInt8} {ws : List Int} {z x : Int} (h : Bt.totS ws (ws.map Bt.okW) = (z, x)) (hx : x ≠ 0) : Bt.unpackS b ws = ([], x) := by
  unfold Bt.unpackS
  rw [h, if_neg hx]
theorem unpackS_short {b : List UInt8} {ws : List Int} {z : Int} (h : Bt.totS ws (ws.map Bt.okW) = (z, 0)) (hs : 8 * (b.length : Int) < z) : Bt.unpackS b ws = ([], 2) := by
  unfold Bt.unpackS
  rw [h, if_pos rfl, if_pos hs]
theorem unpackS_fine {b : List UInt8} {ws : List Int} {z : Int} (h : Bt.totS ws (ws.map Bt.okW) = (z, 0)) (hs : z ≤ 8 * (b.length : Int)) : Bt.unpackS b ws = (Bt.unpK b ws ws.length, 0) := by
  unfold Bt.unpackS
  rw [h, if_pos rfl, if_neg (by simpa using hs)]
theorem unp_step {ws : List Int} {z : Int} (h : Bt.totS ws (ws.map Bt.okW) = (z, 0)) {k : Nat} (hk : k < ws.length) :
    1 ≤ ws.getD k 0 ∧ ws.getD k 0 ≤ 64 ∧ 0 ≤ Bt.sumK ws k ∧ Bt.sumK ws k + ws.getD k 0 = Bt.sumK ws (k + 1) ∧ Bt.sumK ws (k + 1) ≤ z := by
  obtain ⟨h1, h2, h3⟩ := tot_inv h
  have hw : ∀ i, i < ws.length → Bt.okW (ws.getD i 0) = true := fun i hi => by
    have := h1 i (by simpa using hi)
    rwa [Bt.okW_getD] at this
  have h4 := Bt.okW_iff.1 (hw k hk)
  refine ⟨h4.1, h4.2, by have := Bt.sumK_mono hw k (by omega); omega, rfl, ?_⟩
  have := Bt.sumK_le hw (k + 1) (ws.length - (k + 1)) (by omega)
  rw [show k + 1 + (ws.length - (k + 1)) = ws.length by omega] at this
  omega
set_option maxRecDepth 100000 in
set_option maxHeartbeats 4000000 in
theorem Unpack_any {A : Option Addr} {n c B : Nat} {bs : List UInt8} {A' : Option Addr} {m c' B' : Nat} {ws : List Int} (w : World) (hb : RB w B A n c bs) (h : RI w B' A' m c' ws) (hn : n ≤ 1000000) (hm : m ≤ 1000000) (hB : B ≤ w.heap.size) (hB' : B' ≤ w.heap.size) (hx : ∀ x ∈ ws, x ≤ 9223372036854775807) :
    Calls Try.prog 21 #[.slice A n c, .slice A' m c'] w (UnpPost 51 (Bt.unpackS bs ws) w) := by
  have hl := h.len
  have hbl := hb.len
  have T := totali_any w h hm hx
  cases hp : Bt.totS ws (ws.map Bt.okW) with
  | mk z x =>
  rw [hp] at T
  have HP := Lib.hid hp; clear hp
  replace T := Lib.hid T
  dsimp only at T
  by_cases hx0 : x = 0
  · subst hx0
    obtain ⟨t1, t2, t3⟩ := tot_inv HP.out
    clear t1 t2
    by_cases hs : 8 * (n : Int) < z
    · have HPK := Lib.hid (unpackS_short (b := bs) HP.out (by rw [hbl]; exact hs))
      clear hbl hl hx
      go_enter Try.func21, Try.ntmps21
      go_wp2_with fail
      refine (T.out).mono ?_
      rintro e _ ⟨rfl, rfl⟩
      go_wp2_with fail
      go_ret2
      exact unp_bad HPK.out (Below.refl _ _)
    · have hs' : z ≤ 8 * (n : Int) := by omega
      have HPK := Lib.hid (unpackS_fine (b := bs) HP.out (by rw [hbl]; exact hs'))
      have HL := Lib.hid hl
      clear hbl hl hx
      go_enter Try.func21, Try.ntmps21
      go_wp2_with fail
      refine (T.out).mono ?_
      rintro e _ ⟨rfl, rfl⟩
      go_wp2_with fail
      go_loopw [8, 9, 33] (fun v a u wr => ∃ (k : Nat) (A1 : Option Addr) (c1 : Nat), k ≤ m ∧ u = .int .i64 k ∧ v = .slice A1 k c1 ∧ a = .int .i64 (Bt.sumK ws k) ∧ OS (FlW wr w.heap.size) wr w.heap.size 51 2 A1 k c1 (Bt.unpK bs ws k) ∧ Below w.heap.size w wr) (fun _ _ u _ => m - (intOf u).toNat)
      case atStart => exact ⟨0, _, _, by omega, rfl, rfl, rfl, OS.none_ _ _ _ _, Below.refl _ _⟩
      case round =>
        obtain ⟨k, A1, c1, hk, rfl, rfl, rfl, os, bb⟩ := hrel
        by_cases hlt : k < m
        · obtain ⟨b, o, rfl, hbB, q0⟩ := (h.below (bb.mono hB')).at_ hlt
          obtain ⟨s1, s2, s3, s4, s5⟩ := unp_step HP.out (k := k) (by rw [HL.out]; omega)
          have hnx : Bt.unpK bs ws (k + 1) = Bt.unpK bs ws k ++ [Bt.fieldS bs (Bt.sumK ws k).toNat (ws.getD k 0)] := rfl
          generalize ws.getD k 0 = x at *
          obtain ⟨P, hP⟩ : ∃ P : Nat, Bt.sumK ws k = (P : Int) := ⟨_, (Int.toNat_of_nonneg s3).symm⟩
          obtain ⟨M, rfl⟩ : ∃ M : Nat, x = (M : Int) := ⟨x.toNat, by omega⟩
          obtain ⟨nb, e1, e2, e3⟩ := bytesS_nat (M : Int) (by omega) s2
          have hz := bb.size
          have C1 := BGet_ok P M wr (hb.below (bb.mono hB)) hn (by omega) (by omega) (by omega)
          have C2 := fun w => Bytes_any (M : Int) w (by omega)
          have hlow := Bt.lowF_lt bs P M
          have hlow2 : Bt.lowF bs P M < 18446744073709551616 := Nat.lt_of_lt_of_le hlow (Nat.le_trans (Nat.pow_le_pow_right (by decide) (show M ≤ 64 by omega)) (by decide))
          rw [e1] at C2
          rw [hP] at s4 s3 hnx ⊢
          rw [← s4] at s5
          unfold Bt.fieldS at hnx
          rw [e1, Int.toNat_natCast, Int.toNat_natCast, Int.toNat_natCast] at hnx
          generalize Bt.lowF bs P M = V at *
          have C3 := Put8 V wr hlow2
          have HN := Lib.hid hnx; have HS := Lib.hid s4
          replace C1 := Lib.hid C1; replace C2 := Lib.hid C2; replace C3 := Lib.hid C3
          clear hnx s4 hP hlow e1
          go_wp2_with fail
          refine (C1.out).mono ?_
          rintro e _ ⟨rfl, rfl⟩
          go_wp2_with fail
          refine (C3.out).mono ?_
          rintro e w1 ⟨A2, c2, rfl, o2, b2⟩
          have hcut := fun w => run_cut_full etb A2 8 c2 nb (Nat.le_trans e2 o2.rb.le) .i64 .i64 w
          have ow := o2.ow.cut e2
          rw [lb_take 8 nb V e2] at ow
          replace ow := ow.more hz
          have os1 := os.below b2 (R' := FlW w1 w.heap.size) fun _ _ h => h.below b2
          have d2 := below_step bb b2 (Nat.le_refl _)
          clear o2 C1 C3
          go_wp2_with fail
          refine (C2.out _).mono ?_
          rintro e _ ⟨rfl, rfl⟩
          go_wp2_with fail
          refine (C2.out _).mono ?_
          rintro e _ ⟨rfl, rfl⟩
          go_wp2_with (at_builtin; refine wpList_apps etfl (fun w1 => FlW w1 w.heap.size) rfl (.tmp 49) (.tmp 58) rfl rfl rfl rfl w.heap.size os1 ⟨(M : Int), Oct.lb nb V⟩ ⟨A2, nb, nb, rfl, ow⟩ rfl (field_oneCell _ _ _ _) (by omega) (by omega) d2.size (fun w1 A1 n1 c1 xs h g f cs hf => hf.beside h (by decide) g) ?_; intro A3 c3 w3 os3 b3 g3 _)
          go_roundw
          case rel => exact ⟨k + 1, A3, c3, by omega, by go_num, rfl, by rw [← HS.out], by rw [HN.out]; exact os3, d2.trans b3⟩
          case measure => simp [intOf] <;> omega
        · obtain rfl : k = m := by omega
          go_wp2_with fail
          go_ret2
          exact unp_fine (by rw [HPK.out, HL.out]) (Bt.unpK_length _ _ _) os bb
  · have hx' : (x != 0) = true := by simpa using hx0
    have HX := Lib.hid hx0; clear hx0 hx
    go_enter Try.func21, Try.ntmps21
    go_wp2_with fail
    refine (T.out).mono ?_
    rintro e _ ⟨rfl, rfl⟩
    go_wp2_with fail
    go_ret2
    exact unp_bad (unpackS_bad HP.out HX.out) (Below.refl _ _)
end Go.Proofs.Ytecgahhdbhdplaa
