/-
  Walks: frame.value, frame.id.
  Conditions: none.
-/
import Derived.Test.YthfhhkjnmpiieaaFrmShow
namespace Go.Proofs.Ythfhhkjnmpiieaa
set_option linter.unusedVariables false
set_option linter.unusedSimpArgs false
open Go.RowKit
theorem value_dec (z : Int) (w : World) (h1 : 48 ≤ z) (h2 : z ≤ 57) : Calls Try.prog 33 #[.int .i32 z] w fun e w' => e = .returned (.tuple #[.int .i64 (z - 48), .bool true]) ∧ w = w' := by
  go_enter Try.func33, Try.ntmps33
  go_wp2_with fail
  go_ret2
  exact ⟨rfl, rfl⟩
theorem value_hex (z : Int) (w : World) (h1 : 97 ≤ z) (h2 : z ≤ 102) : Calls Try.prog 33 #[.int .i32 z] w fun e w' => e = .returned (.tuple #[.int .i64 (z - 97 + 10), .bool true]) ∧ w = w' := by
  have h3 : 57 < z := by omega
  go_enter Try.func33, Try.ntmps33
  go_wp2_with fail
  go_ret2
  exact ⟨rfl, rfl⟩
theorem value_no (z : Int) (w : World) (h1 : ¬ (48 ≤ z ∧ z ≤ 57)) (h2 : ¬ (97 ≤ z ∧ z ≤ 102)) : Calls Try.prog 33 #[.int .i32 z] w fun e w' => e = .returned (.tuple #[.int .i64 0, .bool false]) ∧ w = w' := by
  by_cases a : z < 48
  · have b : z < 97 := by omega
    clear h1 h2
    go_enter Try.func33, Try.ntmps33
    go_wp2_with fail
    go_ret2
    exact ⟨rfl, rfl⟩
  · have c : 57 < z := by omega
    by_cases b : z < 97
    · clear h1 h2
      go_enter Try.func33, Try.ntmps33
      go_wp2_with fail
      go_ret2
      exact ⟨rfl, rfl⟩
    · have d : 102 < z := by omega
      clear h1 h2
      go_enter Try.func33, Try.ntmps33
      go_wp2_with fail
      go_ret2
      exact ⟨rfl, rfl⟩
theorem value_some {c : UInt8} {k : Nat} (h : Oct.nib c = some k) (w : World) : Calls Try.prog 33 #[.int .i32 (c.toNat : Int)] w fun e w' => e = .returned (.tuple #[.int .i64 (k : Int), .bool true]) ∧ w = w' := by
  unfold Oct.nib at h
  split at h
  · injection h with h
    refine (value_dec (c.toNat : Int) w (by omega) (by omega)).mono fun e w' ⟨he, hw⟩ => ⟨?_, hw⟩
    rw [he, show ((c.toNat : Int) - 48) = (k : Int) by omega]
  · split at h
    · injection h with h
      refine (value_hex (c.toNat : Int) w (by omega) (by omega)).mono fun e w' ⟨he, hw⟩ => ⟨?_, hw⟩
      rw [he, show ((c.toNat : Int) - 97 + 10) = (k : Int) by omega]
    · cases h
theorem value_none {c : UInt8} (h : Oct.nib c = none) {z : Int} (hz : z = (c.toNat : Int) ∨ 128 ≤ z) (w : World) : Calls Try.prog 33 #[.int .i32 z] w fun e w' => e = .returned (.tuple #[.int .i64 0, .bool false]) ∧ w = w' := by
  unfold Oct.nib at h
  split at h
  · cases h
  · split at h
    · cases h
    · exact value_no z w (by omega) (by omega)
theorem or_nib (n d : Nat) (hn : n < 4096) (hd : d < 16) : bits .or .i64 ((n : Int) * 16) (d : Int) = ((16 * n + d : Nat) : Int) := by
  have hx : 16 * n ||| d = 16 * n + d := by
    have := Nat.two_pow_add_eq_or_of_lt (i := 4) (b := d) (by omega) n
    rw [show (2 : Nat) ^ 4 = 16 from rfl] at this
    exact this.symm
  have h1 : ∀ z : Nat, z < 9223372036854775808 → (BitVec.ofInt 64 (z : Int)).toNat = z := fun z hz => by
    rw [BitVec.ofInt_natCast, BitVec.toNat_ofNat]; exact Nat.mod_eq_of_lt (by omega)
  rw [show (n : Int) * 16 = ((16 * n : Nat) : Int) by omega]
  show IntKind.i64.wrap ((BitVec.ofInt 64 ((16 * n : Nat) : Int) ||| BitVec.ofInt 64 (d : Int)).toNat : Int) = _
  rw [BitVec.toNat_or, h1 _ (by omega), h1 _ (by omega), hx, IntKind.wrap_i64]
  omega
/-- What id answers. -/
def IdPost (s : List UInt8) (w : World) (e : Ending) (w' : World) : Prop :=
  ((e = .returned (.tuple #[.int .i64 (Can.idv s 3 : Int), .string (T (s.drop 4)), .bool true]) ∧ Can.idOk s) ∨ ((∃ n t, e = .returned (.tuple #[.int .i64 n, .string t, .bool false])) ∧ ¬ Can.idOk s)) ∧ Below w.heap.size w w'
theorem iter_below (w : World) (s : ByteArray) (p : Nat) : Below w.heap.size w (w.iter s p) := alloc_one w _
theorem id_no {s : List UInt8} {w w' : World} {n : Int} {t : ByteArray} (h : ¬ Can.idOk s) (hb : Below w.heap.size w w') : IdPost s w (.returned (.tuple #[.int .i64 n, .string t, .bool false])) w' := ⟨.inr ⟨⟨n, t, rfl⟩, h⟩, hb⟩
theorem id_yes {s : List UInt8} {w w' : World} {n : Int} (hn : n = (Can.idv s 3 : Int)) (h : Can.idOk s) (hb : Below w.heap.size w w') : IdPost s w (.returned (.tuple #[.int .i64 n, .string (T (s.drop 4)), .bool true])) w' := ⟨.inl ⟨by rw [hn], h⟩, hb⟩
set_option maxRecDepth 100000 in
set_option maxHeartbeats 2000000 in
theorem id_any (s : List UInt8) (w : World) (hs : s.length ≤ 9223372036854775807) : Calls Try.prog 29 #[.string (T s)] w (IdPost s w) := by
  have hts := T_size s
  have HTS := Lib.hid hts; clear hts
  go_enter Try.func29, Try.ntmps29
  go_wp2_with fail
  go_loopw [5] (fun n wr => ∃ k : Nat, k ≤ 3 ∧ wr = w.iter (T s) k ∧ n = .int .i64 (Can.idv s k : Int) ∧ ∀ j, j < k → Oct.nib (s.getD j 0) ≠ none) (fun _ wr => s.length - wr.iterPos w.heap.size)
  case atStart => exact ⟨0, by omega, rfl, rfl, fun _ h => absurd h (by omega)⟩
  case round =>
    obtain ⟨k, hk, rfl, rfl, hgood⟩ := hrel
    have HG := Lib.hid hgood; clear hgood
    by_cases hp : k < s.length
    · have hps : k < (T s).size := by rw [HTS.out]; exact hp
      have hnx : ∀ ty, (Instr.next (.pointer (some ⟨w.heap.size, 0, none⟩)) true ty).run Try.prog (w.iter (T s) k) = _ := fun ty => run_next_any w (T s) k ty hps
      have hle := decode_le (T s) k
      have hlow : (s.getD k 0).toNat < 128 → Utf8.decode (T s) k = ((s.getD k 0).toNat, 1) := fun h => by
        have := decode_ascii (T s) k hps (by rw [T_get]; exact h)
        rwa [T_get] at this
      have hhigh : 128 ≤ (s.getD k 0).toNat → 128 ≤ (Utf8.decode (T s) k).1 := fun h => (decode_high (T s) k hps (by rw [T_get]; exact h)).1
      have hv := Can.idv_lt s k
      have hpw : 16 ^ k ≤ 4096 := Nat.le_trans (Nat.pow_le_pow_right (by decide) hk) (by decide)
      have hvs : Can.idv s (k + 1) = 16 * Can.idv s k + Can.nv (s.getD k 0) := rfl
      generalize hve : Can.idv s k = v at *
      generalize hxe : s.getD k 0 = x at *
      generalize Utf8.decode (T s) k = dz at *
      obtain ⟨z, wd⟩ := dz
      dsimp only at *
      have HX := Lib.hid hxe; have HV := Lib.hid hve; have HVS := Lib.hid hvs; have HLOW := Lib.hid hlow; have HHIGH := Lib.hid hhigh
      clear hxe hve hvs hlow hhigh
      by_cases h3 : k = 3
      · subst h3
        have hcut := fun w => run_T_rest s .i64 4 4 rfl (by omega) w
        by_cases hz : z = 35
        · have hx : x.toNat = 35 := by
            rcases Nat.lt_or_ge x.toNat 128 with h | h
            · have := HLOW.out h; injection this with h1 _; omega
            · have := HHIGH.out h; omega
          have H35 : Can.idOk s := ⟨by omega, by rw [HX.out]; exact UInt8.toNat_inj.1 hx, HG.out⟩
          have K35 := Lib.hid H35; clear H35
          have ht : ((z : Int) == 35) = true := by rw [beq_iff_eq]; omega
          clear hz hx
          go_wp2_with fail
          refine region_later (by kernel_rfl) ?_
          refine phase_later (by kernel_rfl) 0 (below_drew _) [0, 1, 2, 5, 3, 6, 7, 4, 8, 9] rfl (by kernel_rfl) ?_
          simp only [picks, nth]
          repeat (go_big_quiet_step (fail))
          refine wpQuiet_nil ?_
          refine phase_end (by kernel_rfl) ?_
          go_wp2_with fail
          go_ret3
          exact id_yes (by rw [HV.out]) K35.out ((iter_below _ _ _).drew)
        · have H35 : ¬ Can.idOk s := fun h => by
            have e := h.2.1
            rw [HX.out] at e
            subst e
            have := HLOW.out (by decide)
            injection this with h1 _
            exact hz h1
          have K35 := Lib.hid H35; clear H35
          have ht : ((z : Int) == 35) = false := by rw [beq_eq_false_iff_ne]; omega
          clear hz
          go_wp2_with fail
          refine region_later (by kernel_rfl) ?_
          refine phase_later (by kernel_rfl) 0 (below_drew _) [0, 1, 2, 5, 3, 6, 7, 4, 8, 9] rfl (by kernel_rfl) ?_
          simp only [picks, nth]
          repeat (go_big_quiet_step (fail))
          refine wpQuiet_nil ?_
          refine phase_end (by kernel_rfl) ?_
          go_wp2_with fail
          go_ret3
          exact id_no K35.out ((iter_below _ _ _).drew)
      · have h3' : ((k : Int) == 3) = false := by rw [beq_eq_false_iff_ne]; omega
        cases hn : Oct.nib x with
        | none =>
          have hzz : (z : Int) = (x.toNat : Int) ∨ 128 ≤ (z : Int) := by
            rcases Nat.lt_or_ge x.toNat 128 with h | h
            · have := HLOW.out h; injection this with h1 _; omega
            · have := HHIGH.out h; omega
          have HN := Lib.hid hn
          have C := Lib.hid (fun w => value_none hn hzz w)
          clear hn hzz
          go_wp2_with fail
          refine (C.out _).mono ?_
          rintro e w1 ⟨rfl, rfl⟩
          go_wp2_with fail
          go_ret3
          exact id_no (fun h => h.2.2 k (by omega) (by rw [HX.out]; exact HN.out)) (iter_below _ _ _)
        | some d =>
          have hx : x.toNat < 128 := by
            unfold Oct.nib at hn
            split at hn
            · omega
            · split at hn
              · omega
              · cases hn
          have hd := Oct.nib_lt hn
          have e1 := HLOW.out hx
          injection e1 with e1 e2
          subst e1 e2
          have hnv : Can.nv x = d := by unfold Can.nv; rw [hn]; rfl
          have HO := Lib.hid (or_nib v d (by omega) hd)
          have C := Lib.hid (fun w => value_some hn w)
          have HN := Lib.hid hn
          have HNV := Lib.hid hnv
          clear hn hnv hx
          go_wp2_with fail
          refine (C.out _).mono ?_
          rintro e w1 ⟨rfl, rfl⟩
          go_wp2_with fail
          go_roundw
          case rel =>
            refine ⟨k + 1, by omega, rfl, by rw [HVS.out, HNV.out, ← HO.out], fun j hj => ?_⟩
            rcases Nat.lt_or_ge j k with h | h
            · exact HG.out j h
            · obtain rfl : j = k := by omega
              rw [HX.out, HN.out]
              exact fun h => by cases h
          case measure => simp <;> omega
    · have hps : ¬ k < (T s).size := by rw [HTS.out]; exact hp
      have hnx : ∀ ty, (Instr.next (.pointer (some ⟨w.heap.size, 0, none⟩)) true ty).run Try.prog (w.iter (T s) k) = _ := fun ty => run_next_end w (T s) k ty hps
      go_wp2_with fail
      go_ret3
      exact id_no (fun h => hp (by have := h.1; omega)) (iter_below _ _ _)
end Go.Proofs.Ythfhhkjnmpiieaa
