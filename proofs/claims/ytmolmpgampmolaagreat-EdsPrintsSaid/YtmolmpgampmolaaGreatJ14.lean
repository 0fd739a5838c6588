/-
  Texts joined: TypRPar, TypQuo, TypUnq.
  Conditions: none.
-/
import Derived.Test.YtmolmpgampmolaaGreatJ01
import Derived.Test.YtmolmpgampmolaaGreatJ04
import Derived.Test.YtmolmpgampmolaaGreatJ13
/-
  Walk: the reference's number.
  Conditions: none.
-/
namespace Go.Proofs.YtmolmpgampmolaaGreat
set_option linter.unusedVariables false
set_option linter.unusedSimpArgs false
open Go.RowKit
/-- The reference's number and its code: 0, 1 (form), 2 (range). -/
def rparN (s : List UInt8) : Int × Int := ((Ty.parN s).1, if (Ty.parN s).2 = 4 then 1 else if (Ty.parN s).2 = 9 then 2 else 0)
theorem rpar_of {s : List UInt8} {a b c : Int} (h : Ty.parN s = (a, b)) (hc : c = if b = 4 then 1 else if b = 9 then 2 else 0) : rparN s = (a, c) := by
  unfold rparN
  rw [h, hc]
structure RParRel (r : List UInt8) (j V : Nat) (b : Bool) : Prop where
  hi : V ≤ 9223372036854775808
  dig : ∀ i, i < j → Ty.isD (r.getD i 0) = true
  val : (b = false ∧ V = Ty.valD (r.take j)) ∨ (b = true ∧ 9223372036854775808 < Ty.valD (r.take j))
theorem RParRel.start (r : List UInt8) : RParRel r 0 0 false := ⟨by omega, fun j hj => absurd hj (by omega), .inl ⟨rfl, rfl⟩⟩
theorem RParRel.next {r : List UInt8} {k V : Nat} {b : Bool} (h : RParRel r k V b) (hk : k < r.length) (hd : Ty.isD (r.getD k 0) = true) (V' : Nat) (b' : Bool)
    (hs : (b = true ∧ V' = V ∧ b' = true) ∨ (b = false ∧ 9223372036854775808 < 10 * V + ((r.getD k 0).toNat - 48) ∧ V' = V ∧ b' = true) ∨ (b = false ∧ 10 * V + ((r.getD k 0).toNat - 48) ≤ 9223372036854775808 ∧ V' = 10 * V + ((r.getD k 0).toNat - 48) ∧ b' = false)) : RParRel r (k + 1) V' b' := by
  have hc : 48 ≤ (r.getD k 0).toNat ∧ (r.getD k 0).toNat ≤ 57 := of_decide_eq_true hd
  have h1 := h.hi
  have hdig : ∀ j, j < k + 1 → Ty.isD (r.getD j 0) = true := fun j hj => by
    rcases Nat.lt_or_ge j k with h2 | h2
    · exact h.dig j h2
    · obtain rfl : j = k := by omega
      exact hd
  have ht := valD_take hk
  rcases hs with ⟨rfl, rfl, rfl⟩ | ⟨rfl, a1, rfl, rfl⟩ | ⟨rfl, a1, rfl, rfl⟩
  · refine ⟨h1, hdig, .inr ⟨rfl, ?_⟩⟩
    rcases h.val with ⟨b1, _⟩ | ⟨_, b2⟩
    · cases b1
    · rw [ht]; omega
  · refine ⟨h1, hdig, .inr ⟨rfl, ?_⟩⟩
    rcases h.val with ⟨_, b2⟩ | ⟨b1, _⟩
    · rw [ht, ← b2]; exact a1
    · cases b1
  · refine ⟨a1, hdig, .inl ⟨rfl, ?_⟩⟩
    rcases h.val with ⟨_, b2⟩ | ⟨b1, _⟩
    · rw [ht, ← b2]
    · cases b1
def RPar (l : List UInt8) (n a : Nat) (v b i : Value) : Prop := ∃ (k V : Nat) (x : Bool), a ≤ k ∧ k ≤ n ∧ i = .int .i64 k ∧ v = .int .i64 (-(V : Int)) ∧ b = .bool x ∧ RParRel l (k - a) V x
/-- The reference's test: is there room for one more digit? -/
theorem room_test (V d : Nat) (hd : d ≤ 9) : (-9223372036854775808 + (d : Int)).tdiv 10 = -(((9223372036854775808 - d) / 10 : Nat) : Int) := by
  rw [show -9223372036854775808 + (d : Int) = -((9223372036854775808 - d : Nat) : Int) by omega, Int.neg_tdiv]
  rfl
set_option maxRecDepth 100000 in
set_option maxHeartbeats 8000000 in
theorem rnumber_any (s : List UInt8) (w : World) (hs : s.length ≤ 1000000) : Calls Tryz.prog 59 #[.string (T s)] w fun e w' => e = parRes (rparN s) ∧ w = w' := by
  have hTs := T_size s
  rcases (show (s = [] ∨ s = [45]) ∨ (∃ r, (s = 45 :: 48 :: r) ∨ (s = 48 :: r ∧ s ≠ [48])) ∨ (∃ d r, s = 45 :: d :: r ∧ d ≠ 48) ∨ s = [48] ∨ (∃ c r, s = c :: r ∧ c ≠ 45 ∧ c ≠ 48) by
    cases s with
    | nil => exact .inl (.inl rfl)
    | cons c r0 =>
      by_cases h45 : c = 45
      · subst h45
        cases r0 with
        | nil => exact .inl (.inr rfl)
        | cons d r =>
          by_cases h48 : d = 48
          · subst h48; exact .inr (.inl ⟨r, .inl rfl⟩)
          · exact .inr (.inr (.inl ⟨d, r, rfl, h48⟩))
      · by_cases h48 : c = 48
        · subst h48
          by_cases hr : r0 = []
          · subst hr; exact .inr (.inr (.inr (.inl rfl)))
          · exact .inr (.inl ⟨r0, .inr ⟨rfl, by simpa using hr⟩⟩)
        · exact .inr (.inr (.inr (.inr ⟨c, r0, rfl, h45, h48⟩)))) with (rfl | rfl) | ⟨r, rfl | ⟨rfl, h48⟩⟩ | ⟨d, r, rfl, h48⟩ | rfl | ⟨c, r, rfl, h45, h48⟩
  · have HF := Lib.hid (rpar_of (c := 1) (par_form (form_nil (s := []) rfl)) rfl)
    rw [show ([] : List UInt8).length = 0 from rfl] at hTs
    go_enter Tryz.func59, Tryz.ntmps59
    go_wp2_with fail
    go_ret2
    exact ⟨par_ret HF.out, rfl⟩
  · have HF := Lib.hid (rpar_of (c := 1) (par_form (form_nil (s := [45]) rfl)) rfl)
    have hat0 := fun w => run_T_at [45] .i64 0 0 rfl (by simp) w
    rw [show ((([45] : List UInt8).getD 0 0).toNat : Int) = 45 from rfl] at hat0
    rw [show ([45] : List UInt8).length = 1 from rfl] at hTs
    go_enter Tryz.func59, Tryz.ntmps59
    go_wp2_with fail
    go_ret2
    exact ⟨par_ret HF.out, rfl⟩
  · have HF := Lib.hid (rpar_of (c := 1) (par_form (form_zero (s := 45 :: 48 :: r) (r := r) rfl (by simp))) rfl)
    have hat0 := fun w => run_T_at (45 :: 48 :: r) .i64 0 0 rfl (by simp) w
    rw [show (((45 :: 48 :: r : List UInt8).getD 0 0).toNat : Int) = 45 from rfl] at hat0
    have hat1 := fun w => run_T_at (45 :: 48 :: r) .i64 1 1 rfl (by simp) w
    rw [show (((45 :: 48 :: r : List UInt8).getD 1 0).toNat : Int) = 48 from rfl] at hat1
    obtain ⟨m, hm⟩ : ∃ m, (45 :: 48 :: r : List UInt8).length = m + 2 := ⟨r.length, rfl⟩
    rw [hm] at hTs hs
    clear hm
    go_enter Tryz.func59, Tryz.ntmps59
    go_wp2_with fail
    go_ret2
    exact ⟨par_ret HF.out, rfl⟩
  · have HF := Lib.hid (rpar_of (c := 1) (par_form (form_zero (s := 48 :: r) (r := r) (rest_plus r (by decide)).1 h48)) rfl)
    have hat1 := fun w => run_T_at (48 :: r) .i64 0 0 rfl (by simp) w
    rw [show (((48 :: r : List UInt8).getD 0 0).toNat : Int) = 48 from rfl] at hat1
    obtain ⟨m, hm⟩ : ∃ m, (48 :: r : List UInt8).length = m + 2 := by
      cases r with
      | nil => exact absurd rfl h48
      | cons a r => exact ⟨r.length, rfl⟩
    rw [hm] at hTs hs
    clear h48 hm
    go_enter Tryz.func59, Tryz.ntmps59
    go_wp2_with fail
    go_ret2
    exact ⟨par_ret HF.out, rfl⟩
  case' inr.inr.inl =>
    have hat0 := fun w => run_T_at (45 :: d :: r) .i64 0 0 rfl (by simp) w
    rw [show (((45 :: d :: r : List UInt8).getD 0 0).toNat : Int) = 45 from rfl] at hat0
    have hat1 := fun w => run_T_at (45 :: d :: r) .i64 1 1 rfl (by simp) w
    rw [show (((45 :: d :: r : List UInt8).getD 1 0).toNat : Int) = (d.toNat : Int) from rfl] at hat1
    have hx : ((d.toNat : Int) == 48) = false := byte_beq d 48 ▸ (by simpa using h48)
    have HOK := Lib.hid (fun hd => form_ok (s := 45 :: d :: r) (c := d) (r := r) rfl (.inl h48) hd)
    have HBAD := Lib.hid (fun i (hi : i < (d :: r).length) hd => form_all (s := 45 :: d :: r) (r := d :: r) rfl hi hd)
    have HM := Lib.hid (show Ty.minus (45 :: d :: r) = true from rfl)
    have HR := Lib.hid (show Ty.rest (45 :: d :: r) = d :: r from rfl)
    have HIX := Lib.hid (show ∀ k, 1 ≤ k → (45 :: d :: r : List UInt8).getD k 0 = (d :: r).getD (k - 1) 0 from fun k hk => by
      obtain ⟨k, rfl⟩ : ∃ j, k = j + 1 := ⟨k - 1, by omega⟩
      rfl)
    have HIN := Lib.hid (fun k (h : k < (45 :: d :: r : List UInt8).length) w => run_T_at (45 :: d :: r) .i64 (k : Int) k rfl h w)
    have hlen : (45 :: d :: r : List UInt8).length = (d :: r).length + 1 := rfl
    have hpos : 0 < (d :: r).length := by simp
    obtain ⟨a, ha⟩ : ∃ a : Nat, a = 1 := ⟨1, rfl⟩
    generalize (45 :: d :: r : List UInt8) = s at *
    generalize (d :: r : List UInt8) = l at *
    have HLEN := Lib.hid hlen
    have hpos2 : 2 ≤ s.length := by omega
    clear h48 hlen hpos
    subst ha
  case' inr.inr.inr.inl =>
    have hat1 := fun w => run_T_at ([48] : List UInt8) .i64 0 0 rfl (by simp) w
    rw [show (((([48] : List UInt8)).getD 0 0).toNat : Int) = 48 from rfl] at hat1
    have HOK := Lib.hid (fun hd => form_ok (s := [48]) (c := 48) (r := []) rfl (.inr rfl) hd)
    have HBAD := Lib.hid (fun i (hi : i < ([48] : List UInt8).length) hd => form_all (s := [48]) (r := [48]) rfl hi hd)
    have HM := Lib.hid (show Ty.minus [48] = false from rfl)
    have HR := Lib.hid (show Ty.rest [48] = [48] from rfl)
    have HIX := Lib.hid (show ∀ k, 0 ≤ k → ([48] : List UInt8).getD k 0 = ([48] : List UInt8).getD (k - 0) 0 from fun k hk => rfl)
    have HIN := Lib.hid (fun k (h : k < ([48] : List UInt8).length) w => run_T_at ([48] : List UInt8) .i64 (k : Int) k rfl h w)
    have hlen : ([48] : List UInt8).length = 1 := rfl
    generalize hl48 : ([48] : List UInt8) = l at *
    have HLEN := Lib.hid (show l.length = l.length + 0 from rfl)
    have HL1 := Lib.hid hlen
    have hp1 : 0 < l.length := by omega
    have hp2 : ¬ 1 < l.length := by omega
    have hz : ((l.length : Int) == 0) = false := by rw [beq_eq_false_iff_ne]; omega
    clear hl48 hlen
  case' inr.inr.inr.inr =>
    have hat1 := fun w => run_T_at (c :: r) .i64 0 0 rfl (by simp) w
    rw [show ((((c :: r)).getD 0 0).toNat : Int) = (c.toNat : Int) from rfl] at hat1
    have hx : ((c.toNat : Int) == 48) = false := byte_beq c 48 ▸ (by simpa using h48)
    have hx2 : ((c.toNat : Int) == 45) = false := byte_beq c 45 ▸ (by simpa using h45)
    have HOK := Lib.hid (fun hd => form_ok (s := c :: r) (c := c) (r := r) (rest_plus r h45).1 (.inl h48) hd)
    have HBAD := Lib.hid (fun i (hi : i < (c :: r).length) hd => form_all (s := c :: r) (r := c :: r) (rest_plus r h45).1 hi hd)
    have HM := Lib.hid (rest_plus r h45).2
    have HR := Lib.hid (rest_plus r h45).1
    have HIX := Lib.hid (show ∀ k, 0 ≤ k → (c :: r).getD k 0 = (c :: r).getD (k - 0) 0 from fun k hk => rfl)
    have HIN := Lib.hid (fun k (h : k < (c :: r).length) w => run_T_at (c :: r) .i64 (k : Int) k rfl h w)
    have HLEN := Lib.hid (show (c :: r).length = (c :: r).length + 0 from rfl)
    have hpos : 0 < (c :: r).length := by simp
    have hz : (((c :: r).length : Int) == 0) = false := by rw [beq_eq_false_iff_ne]; omega
    generalize (c :: r) = l at *
    clear h48 h45
  case' inr.inr.inl =>
    go_enter Tryz.func59, Tryz.ntmps59
    go_wp2_with fail
    go_loop [5, 6, 7] (fun v b i => RPar l s.length 1 v b i) (fun _ _ i => s.length - (intOf i).toNat)
    case atStart => exact ⟨1, 0, false, by omega, by omega, rfl, rfl, rfl, RParRel.start l⟩
    case round =>
      obtain ⟨k, V, x, hak, hk, rfl, rfl, rfl, hrel⟩ := hrel
      have hV := hrel.hi
      have HREL := Lib.hid hrel; clear hrel
      by_cases hlt : k < s.length
      · have hkl : k - 1 < l.length := by have := HLEN.out; omega
        have hat := HIN.out k hlt
        rw [HIX.out k hak] at hat
        have hx3 := byte_lt (l.getD (k - 1) 0)
        have hnx := HREL.out.next hkl
        have hbad := HBAD.out (k - 1) hkl
        generalize l.getD (k - 1) 0 = y at *
        have HNX := Lib.hid hnx; have HB := Lib.hid hbad
        clear hnx hbad hat1
        rcases (show y.toNat < 48 ∨ (48 ≤ y.toNat ∧ 57 < y.toNat) ∨ (48 ≤ y.toNat ∧ y.toNat ≤ 57) by omega) with h | ⟨h1, h2⟩ | ⟨h1, h2⟩
        · have HF := Lib.hid (rpar_of (c := 1) (par_form (HB.out (dig_no (.inl h)))) rfl)
          go_wp2_with fail
          go_ret2
          exact ⟨par_ret HF.out, rfl⟩
        · have HF := Lib.hid (rpar_of (c := 1) (par_form (HB.out (dig_no (.inr h2)))) rfl)
          go_wp2_with fail
          go_ret2
          exact ⟨par_ret HF.out, rfl⟩
        · have HD := Lib.hid (show Ty.isD y = true from decide_eq_true ⟨h1, h2⟩)
          obtain ⟨D, hD⟩ : ∃ D : Nat, (y.toNat : Int) - 48 = (D : Int) := ⟨y.toNat - 48, by omega⟩
          have hD2 : D = y.toNat - 48 := by omega
          have hD9 : D ≤ 9 := by omega
          have hrt := room_test V D hD9
          have HD2 := Lib.hid hD2
          clear hD2
          by_cases hbig : 9223372036854775808 < 10 * V + D
          · have hq : (9223372036854775808 - D) / 10 < V := by omega
            have hQ : (9223372036854775808 - D) / 10 ≤ 922337203685477580 := by omega
            generalize (9223372036854775808 - D) / 10 = Q at *
            have HBIG := Lib.hid hbig
            clear hbig
            cases x with
            | true =>
              go_wp2_with fail
              refine ⟨⟨_, _, _, _, _, ?_, rfl, rfl, rfl, rfl, rfl⟩, ?_⟩
              · exact ⟨k + 1, V, true, by omega, by omega, by go_num, rfl, rfl, by rw [show k + 1 - 1 = k - 1 + 1 by omega]; exact HNX.out HD.out V true (.inl ⟨by trivial, rfl, rfl⟩)⟩
              · simp [intOf] <;> omega
            | false =>
              go_wp2_with fail
              refine ⟨⟨_, _, _, _, _, ?_, rfl, rfl, rfl, rfl, rfl⟩, ?_⟩
              · exact ⟨k + 1, V, true, by omega, by omega, by go_num, rfl, rfl, by rw [show k + 1 - 1 = k - 1 + 1 by omega]; exact HNX.out HD.out V true (.inr (.inl ⟨by trivial, by have := HBIG.out; rw [HD2.out] at this; exact this, rfl, rfl⟩))⟩
              · simp [intOf] <;> omega
          · have hsm : 10 * V + D ≤ 9223372036854775808 := by omega
            have hq : V ≤ (9223372036854775808 - D) / 10 := by omega
            have hQ : (9223372036854775808 - D) / 10 ≤ 922337203685477580 := by omega
            generalize (9223372036854775808 - D) / 10 = Q at *
            have HSM := Lib.hid hsm
            have hw : 10 * (-(V : Int)) - (D : Int) = -((10 * V + D : Nat) : Int) := by omega
            have hlo : -9223372036854775808 ≤ 10 * (-(V : Int)) - (D : Int) := by omega
            clear hbig
            cases x with
            | true =>
              go_wp2_with fail
              refine ⟨⟨_, _, _, _, _, ?_, rfl, rfl, rfl, rfl, rfl⟩, ?_⟩
              · exact ⟨k + 1, V, true, by omega, by omega, by go_num, rfl, rfl, by rw [show k + 1 - 1 = k - 1 + 1 by omega]; exact HNX.out HD.out V true (.inl ⟨by trivial, rfl, rfl⟩)⟩
              · simp [intOf] <;> omega
            | false =>
              go_wp2_with fail
              refine ⟨⟨_, _, _, _, _, ?_, rfl, rfl, rfl, rfl, rfl⟩, ?_⟩
              · exact ⟨k + 1, 10 * V + D, false, by omega, by omega, by go_num, by go_num, rfl, by rw [show k + 1 - 1 = k - 1 + 1 by omega]; exact HNX.out HD.out _ false (.inr (.inr ⟨by trivial, by have := HSM.out; rw [HD2.out] at this; exact this, by rw [HD2.out], rfl⟩))⟩
              · simp [intOf] <;> omega
      · obtain rfl : k = s.length := by omega
        have htk : l.take (s.length - 1) = l := List.take_of_length_le (by have := HLEN.out; omega)
        have hval := HREL.out.val
        rw [htk] at hval
        have HF := Lib.hid (HOK.out fun i hi => HREL.out.dig i (by have := HLEN.out; omega))
        have HVAL := Lib.hid hval
        clear htk hat1 hval
        cases x with
        | true =>
          have HP := Lib.hid (rpar_of (c := 2) (par_range HF.out (.inl (by
            rw [HR.out]
            rcases HVAL.out with h | h
            · cases h.1
            · exact h.2))) rfl)
          go_wp2_with fail
          go_ret2
          exact ⟨par_ret HP.out, rfl⟩
        | false =>
          have hv : V = Ty.valD l := by rcases HVAL.out with h | h; exact h.2; cases h.1
          have HV := Lib.hid hv; clear hv
          have HP := Lib.hid (rpar_of (c := 0) (par_minus HF.out HM.out (by rw [HR.out, ← HV.out]; exact hV)) rfl)
          go_wp2_with fail
          go_ret2
          exact ⟨par_ret (by rw [HP.out, HR.out, ← HV.out]), rfl⟩
  all_goals
    go_enter Tryz.func59, Tryz.ntmps59
    go_wp2_with fail
    go_loop [5, 6, 7] (fun v b i => RPar l l.length 0 v b i) (fun _ _ i => l.length - (intOf i).toNat)
    case atStart => exact ⟨0, 0, false, by omega, by omega, rfl, rfl, rfl, RParRel.start l⟩
    case round =>
      obtain ⟨k, V, x, hak, hk, rfl, rfl, rfl, hrel⟩ := hrel
      have hV := hrel.hi
      have HREL := Lib.hid hrel; clear hrel
      by_cases hlt : k < l.length
      · have hkl : k - 0 < l.length := by have := HLEN.out; omega
        have hat := HIN.out k hlt
        rw [HIX.out k hak] at hat
        have hx3 := byte_lt (l.getD (k - 0) 0)
        have hnx := HREL.out.next hkl
        have hbad := HBAD.out (k - 0) hkl
        generalize l.getD (k - 0) 0 = y at *
        have HNX := Lib.hid hnx; have HB := Lib.hid hbad
        clear hnx hbad hat1
        rcases (show y.toNat < 48 ∨ (48 ≤ y.toNat ∧ 57 < y.toNat) ∨ (48 ≤ y.toNat ∧ y.toNat ≤ 57) by omega) with h | ⟨h1, h2⟩ | ⟨h1, h2⟩
        · have HF := Lib.hid (rpar_of (c := 1) (par_form (HB.out (dig_no (.inl h)))) rfl)
          go_wp2_with fail
          go_ret2
          exact ⟨par_ret HF.out, rfl⟩
        · have HF := Lib.hid (rpar_of (c := 1) (par_form (HB.out (dig_no (.inr h2)))) rfl)
          go_wp2_with fail
          go_ret2
          exact ⟨par_ret HF.out, rfl⟩
        · have HD := Lib.hid (show Ty.isD y = true from decide_eq_true ⟨h1, h2⟩)
          obtain ⟨D, hD⟩ : ∃ D : Nat, (y.toNat : Int) - 48 = (D : Int) := ⟨y.toNat - 48, by omega⟩
          have hD2 : D = y.toNat - 48 := by omega
          have hD9 : D ≤ 9 := by omega
          have hrt := room_test V D hD9
          have HD2 := Lib.hid hD2
          clear hD2
          by_cases hbig : 9223372036854775808 < 10 * V + D
          · have hq : (9223372036854775808 - D) / 10 < V := by omega
            have hQ : (9223372036854775808 - D) / 10 ≤ 922337203685477580 := by omega
            generalize (9223372036854775808 - D) / 10 = Q at *
            have HBIG := Lib.hid hbig
            clear hbig
            cases x with
            | true =>
              go_wp2_with fail
              go_round
              case rel => exact ⟨k + 1, V, true, by omega, by omega, by go_num, rfl, rfl, by rw [show k + 1 - 0 = k - 0 + 1 by omega]; exact HNX.out HD.out V true (.inl ⟨by trivial, rfl, rfl⟩)⟩
              case measure => simp [intOf] <;> omega
            | false =>
              go_wp2_with fail
              go_round
              case rel => exact ⟨k + 1, V, true, by omega, by omega, by go_num, rfl, rfl, by rw [show k + 1 - 0 = k - 0 + 1 by omega]; exact HNX.out HD.out V true (.inr (.inl ⟨by trivial, by have := HBIG.out; rw [HD2.out] at this; exact this, rfl, rfl⟩))⟩
              case measure => simp [intOf] <;> omega
          · have hsm : 10 * V + D ≤ 9223372036854775808 := by omega
            have hq : V ≤ (9223372036854775808 - D) / 10 := by omega
            have hQ : (9223372036854775808 - D) / 10 ≤ 922337203685477580 := by omega
            generalize (9223372036854775808 - D) / 10 = Q at *
            have HSM := Lib.hid hsm
            have hw : 10 * (-(V : Int)) - (D : Int) = -((10 * V + D : Nat) : Int) := by omega
            have hlo : -9223372036854775808 ≤ 10 * (-(V : Int)) - (D : Int) := by omega
            clear hbig
            cases x with
            | true =>
              go_wp2_with fail
              go_round
              case rel => exact ⟨k + 1, V, true, by omega, by omega, by go_num, rfl, rfl, by rw [show k + 1 - 0 = k - 0 + 1 by omega]; exact HNX.out HD.out V true (.inl ⟨by trivial, rfl, rfl⟩)⟩
              case measure => simp [intOf] <;> omega
            | false =>
              go_wp2_with fail
              go_round
              case rel => exact ⟨k + 1, 10 * V + D, false, by omega, by omega, by go_num, by go_num, rfl, by rw [show k + 1 - 0 = k - 0 + 1 by omega]; exact HNX.out HD.out _ false (.inr (.inr ⟨by trivial, by have := HSM.out; rw [HD2.out] at this; exact this, by rw [HD2.out], rfl⟩))⟩
              case measure => simp [intOf] <;> omega
      · obtain rfl : k = l.length := by omega
        have htk : l.take (l.length - 0) = l := List.take_of_length_le (by have := HLEN.out; omega)
        have hval := HREL.out.val
        rw [htk] at hval
        have HF := Lib.hid (HOK.out fun i hi => HREL.out.dig i (by have := HLEN.out; omega))
        have HVAL := Lib.hid hval
        clear htk hat1 hval
        cases x with
        | true =>
          have HP := Lib.hid (rpar_of (c := 2) (par_range HF.out (.inl (by
            rw [HR.out]
            rcases HVAL.out with h | h
            · cases h.1
            · exact h.2))) rfl)
          go_wp2_with fail
          go_ret2
          exact ⟨par_ret HP.out, rfl⟩
        | false =>
          have hv : V = Ty.valD l := by rcases HVAL.out with h | h; exact h.2; cases h.1
          have HV := Lib.hid hv; clear hv
          rcases (show V = 9223372036854775808 ∨ V < 9223372036854775808 by omega) with rfl | h
          · have HP := Lib.hid (rpar_of (c := 2) (par_range HF.out (.inr ⟨by rw [HR.out, ← HV.out], HM.out⟩)) rfl)
            go_wp2_with fail
            go_ret2
            exact ⟨par_ret HP.out, rfl⟩
          · have HP := Lib.hid (rpar_of (c := 0) (par_plus HF.out HM.out (by rw [HR.out, ← HV.out]; exact h)) rfl)
            have hz : (-(V : Int) == -9223372036854775808) = false := by rw [beq_eq_false_iff_ne]; omega
            go_wp2_with fail
            go_ret2
            exact ⟨par_ret (by rw [HP.out, HR.out, ← HV.out]), rfl⟩
end Go.Proofs.YtmolmpgampmolaaGreat
/-
  Walks: types.quote, unquote, the reference's text.
  Conditions: none.
-/
namespace Go.Proofs.YtmolmpgampmolaaGreat
set_option linter.unusedVariables false
set_option linter.unusedSimpArgs false
open Go.RowKit
theorem esc_append (a b : List UInt8) : Ty.esc (a ++ b) = Ty.esc a ++ Ty.esc b := by unfold Ty.esc; exact List.flatMap_append
theorem esc_one (x : UInt8) : Ty.esc [x] = if Ty.mark x = true then [92, x] else [x] := by simp [Ty.esc]
theorem esc_snoc {l : List UInt8} {k : Nat} (hk : k < l.length) : Ty.esc (l.take (k + 1)) = Ty.esc (l.take k) ++ (if Ty.mark (l.getD k 0) = true then [92, l.getD k 0] else [l.getD k 0]) := by
  rw [List.take_succ_eq_append_getElem hk, esc_append, esc_one, show l.getD k 0 = l[k] by simp [List.getD, hk]]
theorem esc_len : ∀ (l : List UInt8), (Ty.esc l).length ≤ 2 * l.length
  | [] => by simp [Ty.esc]
  | c :: l => by
    have := esc_len l
    rw [show c :: l = [c] ++ l from rfl, esc_append, esc_one, List.length_append, List.length_append]
    generalize (Ty.esc l).length = m at *
    split <;> simp <;> omega
theorem quo_len (l : List UInt8) : (Ty.quo l).length ≤ 2 * l.length + 2 := by
  have := esc_len l
  unfold Ty.quo
  simp
  omega
set_option maxRecDepth 100000 in
set_option maxHeartbeats 4000000 in
theorem quote_any {A : Option Addr} {n c B : Nat} {l : List UInt8} (w : World) (hb : RB w B A n c l) (hn : n ≤ 1000000) (hB : B ≤ w.heap.size) : Calls Tryz.prog 81 #[.slice A n c] w fun e w' => e = .returned (.string (T (Ty.quo l))) ∧ Below w.heap.size w w' := by
  have hl := hb.len
  have HL := Lib.hid hl
  have o0 := OB.new (base := w.heap.size) w [34] 1 rfl (by omega) (Nat.le_refl _)
  have b0 := alloc_one w (.cells #[.int .u8 34] 5)
  clear hl
  go_enter Tryz.func81, Tryz.ntmps81
  go_wp2_with fail
  go_loopw [3, 9] (fun v i wr => ∃ (k m : Nat) (A1 : Option Addr) (c1 : Nat), k ≤ n ∧ i = .int .i64 k ∧ v = .slice A1 m c1 ∧ m ≤ 2 * k + 1 ∧ OB wr w.heap.size A1 m c1 (34 :: Ty.esc (l.take k)) ∧ Below w.heap.size w wr) (fun _ i _ => n - (intOf i).toNat)
  case atStart => exact ⟨0, 1, _, _, by omega, rfl, rfl, by omega, o0, b0⟩
  case round =>
    clear o0 b0
    obtain ⟨k, m, A1, c1, hk, rfl, rfl, hm, ob, bb⟩ := hrel
    have hz := bb.size
    by_cases hlt : k < n
    · obtain ⟨b, o, rfl, hbB, hc⟩ := (hb.below (bb.mono hB)).at_ (show 0 < n by omega)
      have hck := hc k hlt
      have hx := byte_lt (l.getD k 0)
      have hes := esc_snoc (l := l) (k := k) (by have := HL.out; omega)
      generalize l.getD k 0 = x at *
      have HES := Lib.hid hes
      clear hc hes
      by_cases hmk : Ty.mark x = true
      · have hes2 := HES.out
        rw [if_pos hmk] at hes2
        have HE2 := Lib.hid hes2
        have h3 : x.toNat = 34 ∨ (x.toNat ≠ 34 ∧ x.toNat = 92) := by
          unfold Ty.mark at hmk
          simp only [Bool.or_eq_true, beq_iff_eq] at hmk
          rcases hmk with rfl | rfl
          · exact .inl rfl
          · exact .inr ⟨by decide, rfl⟩
        clear hes2 hmk HES
        rcases h3 with h3 | ⟨h3, h4⟩
        · have e1 : ((x.toNat : Int) == 34) = true := by rw [h3]; rfl
          clear h3
          go_wp2_with (first
            | (at_builtin; refine wpList_appb_one etb rfl (.tmp 19) (.tmp 20) rfl rfl rfl w.heap.size ob 92 rfl (by omega) hz ?_; intro A2 c2 w2 o2 b2 _ _; have hz2 := Nat.le_trans hz b2.size; have q2 := (hb.below ((bb.trans b2).mono hB)))
            | (at_builtin; refine wpList_appb_one etb rfl (.tmp 22) (.tmp 24) rfl rfl rfl w.heap.size o2 x rfl (by omega) hz2 ?_; intro A3 c3 w3 o3 b3 _ _))
          go_roundw
          case rel => exact ⟨k + 1, m + 1 + 1, A3, c3, by omega, by go_num, rfl, by omega, by rw [HE2.out]; simpa using o3, (bb.trans b2).trans b3⟩
          case measure => simp [intOf] <;> omega
        · have e1 : ((x.toNat : Int) == 34) = false := by rw [beq_eq_false_iff_ne]; omega
          have e2 : ((x.toNat : Int) == 92) = true := by rw [h4]; rfl
          clear h3 h4
          go_wp2_with (first
            | (at_builtin; refine wpList_appb_one etb rfl (.tmp 19) (.tmp 20) rfl rfl rfl w.heap.size ob 92 rfl (by omega) hz ?_; intro A2 c2 w2 o2 b2 _ _; have hz2 := Nat.le_trans hz b2.size)
            | (at_builtin; refine wpList_appb_one etb rfl (.tmp 22) (.tmp 24) rfl rfl rfl w.heap.size o2 x rfl (by omega) hz2 ?_; intro A3 c3 w3 o3 b3 _ _))
          go_roundw
          case rel => exact ⟨k + 1, m + 1 + 1, A3, c3, by omega, by go_num, rfl, by omega, by rw [HE2.out]; simpa using o3, (bb.trans b2).trans b3⟩
          case measure => simp [intOf] <;> omega
      · have hes2 := HES.out
        rw [if_neg hmk] at hes2
        have HE2 := Lib.hid hes2
        have h3 : x.toNat ≠ 34 ∧ x.toNat ≠ 92 := by
          refine ⟨fun h => hmk ?_, fun h => hmk ?_⟩
          · have : x = 34 := UInt8.toNat_inj.1 h
            rw [this]; rfl
          · have : x = 92 := UInt8.toNat_inj.1 h
            rw [this]; rfl
        have e1 : ((x.toNat : Int) == 34) = false := by rw [beq_eq_false_iff_ne]; omega
        have e2 : ((x.toNat : Int) == 92) = false := by rw [beq_eq_false_iff_ne]; omega
        clear hes2 hmk h3 HES
        go_wp2_with (at_builtin; refine wpList_appb_one etb rfl (.tmp 22) (.tmp 24) rfl rfl rfl w.heap.size ob x rfl (by omega) hz ?_; intro A3 c3 w3 o3 b3 _ _)
        go_roundw
        case rel => exact ⟨k + 1, m + 1, A3, c3, by omega, by go_num, rfl, by omega, by rw [HE2.out]; simpa using o3, bb.trans b3⟩
        case measure => simp [intOf] <;> omega
    · obtain rfl : k = n := by omega
      have htk : l.take k = l := List.take_of_length_le (by have := HL.out; omega)
      rw [htk] at ob
      have HQ := Lib.hid (show (34 :: Ty.esc l) ++ [34] = Ty.quo l from rfl)
      clear htk
      go_wp2_with (at_builtin; refine wpList_appb_one etb rfl (.tmp 27) (.tmp 28) rfl rfl rfl w.heap.size ob 34 rfl (by omega) hz ?_; intro A3 c3 w3 o3 b3 _ _; have e3 := convb o3.rb)
      go_ret
      exact ⟨by rw [← HQ.out]; rfl, bb.trans b3⟩
end Go.Proofs.YtmolmpgampmolaaGreat
/-
  Walks: types.unquote, the reference's text.
  Conditions: none.
-/
namespace Go.Proofs.YtmolmpgampmolaaGreat
set_option linter.unusedVariables false
set_option linter.unusedSimpArgs false
open Go.RowKit
def UnqPost (o : Option (List UInt8)) (w : World) (e : Ending) (w' : World) : Prop :=
  ∃ A n c, Below w.heap.size w w' ∧ match o with
    | some b => e = .returned (.tuple #[.slice A n c, .bool true]) ∧ OB w' w.heap.size A n c b
    | none => e = .returned (.tuple #[.slice A n c, .bool false])
theorem unq_no {o : Option (List UInt8)} {w w' : World} {A : Option Addr} {n c : Nat} (h : o = none) (hb : Below w.heap.size w w') : UnqPost o w (.returned (.tuple #[.slice A n c, .bool false])) w' := by
  subst h; exact ⟨A, n, c, hb, rfl⟩
theorem unq_yes {o : Option (List UInt8)} {w w' : World} {A : Option Addr} {n c : Nat} {b : List UInt8} (h : o = some b) (ho : OB w' w.heap.size A n c b) (hb : Below w.heap.size w w') : UnqPost o w (.returned (.tuple #[.slice A n c, .bool true])) w' := by
  subst h; exact ⟨A, n, c, hb, rfl, ho⟩
/-- What is left, with the sign ahead that masks. -/
def st (m : Bool) (t : List UInt8) : List UInt8 := if m = true then 92 :: t else t
theorem un_masked_no {c : UInt8} {r : List UInt8} (h : Ty.mark c = false) : Ty.unF (92 :: c :: r) = none := by
  rw [Ty.unF, if_neg (by decide), if_pos rfl, if_neg (by rw [h]; decide)]
theorem un_masked_yes {c : UInt8} {r : List UInt8} (h : Ty.mark c = true) : Ty.unF (92 :: c :: r) = (Ty.unF r).map (c :: ·) := by
  rw [Ty.unF, if_neg (by decide), if_pos rfl, if_pos h]
theorem un_sign (r : List UInt8) : Ty.unF (34 :: r) = none := by
  cases r with
  | nil => rfl
  | cons d r => rw [Ty.unF, if_pos rfl]
theorem un_plain {c : UInt8} (r : List UInt8) (h : Ty.mark c = false) : Ty.unF (c :: r) = (Ty.unF r).map (c :: ·) := by
  have h34 : c ≠ 34 := fun e => by rw [e] at h; cases h
  have h92 : c ≠ 92 := fun e => by rw [e] at h; cases h
  cases r with
  | nil => simp [Ty.unF, h]
  | cons d r => rw [Ty.unF, if_neg h34, if_neg h92]
theorem map_snoc (o : Option (List UInt8)) (out : List UInt8) (c : UInt8) : (o.map (c :: ·)).map (out ++ ·) = o.map ((out ++ [c]) ++ ·) := by cases o <;> simp
/-- What the loop has behind j bytes. -/
structure UnRel (t : List UInt8) (j : Nat) (m : Bool) (out : List UInt8) : Prop where
  val : Ty.unF t = (Ty.unF (st m (t.drop j))).map (out ++ ·)
  len : out.length ≤ j
theorem UnRel.start (t : List UInt8) : UnRel t 0 false [] := ⟨by simp [st], by simp⟩
theorem drop_at {t : List UInt8} {j : Nat} (hj : j < t.length) : t.drop j = t.getD j 0 :: t.drop (j + 1) := by
  rw [List.drop_eq_getElem_cons hj]; simp [List.getD, hj]
theorem UnRel.bad {t : List UInt8} {j : Nat} {m : Bool} {out : List UInt8} (h : UnRel t j m out) (hj : j < t.length) (hc : (m = true ∧ Ty.mark (t.getD j 0) = false) ∨ (m = false ∧ t.getD j 0 = 34)) : Ty.unF t = none := by
  have := h.val
  rw [drop_at hj] at this
  rcases hc with ⟨rfl, hc⟩ | ⟨rfl, hc⟩
  · rw [st, if_pos rfl, un_masked_no hc] at this; exact this
  · rw [st, if_neg (by decide), hc, un_sign] at this; exact this
theorem UnRel.mask {t : List UInt8} {j : Nat} {out : List UInt8} (h : UnRel t j false out) (hj : j < t.length) (hc : t.getD j 0 = 92) : UnRel t (j + 1) true out := by
  refine ⟨?_, by have := h.len; omega⟩
  rw [h.val, drop_at hj, hc]
  rfl
theorem UnRel.push {t : List UInt8} {j : Nat} {m : Bool} {out : List UInt8} (h : UnRel t j m out) (hj : j < t.length) (hc : m = Ty.mark (t.getD j 0)) : UnRel t (j + 1) false (out ++ [t.getD j 0]) := by
  refine ⟨?_, by have := h.len; simp; omega⟩
  rw [h.val, drop_at hj]
  cases m with
  | true => rw [st, if_pos rfl, un_masked_yes hc.symm, map_snoc]; rfl
  | false => rw [st, if_neg (by decide), un_plain _ hc.symm, map_snoc]; rfl
theorem UnRel.done {t : List UInt8} {m : Bool} {out : List UInt8} (h : UnRel t t.length m out) : Ty.unF t = if m = true then none else some out := by
  have := h.val
  rw [List.drop_length] at this
  rw [this]
  cases m with
  | true => rfl
  | false => simp [st, Ty.unF]
theorem unq_mid (t : List UInt8) : Ty.unq (34 :: (t ++ [34])) = Ty.unF t := by
  unfold Ty.unq
  rw [if_pos ⟨by simp, rfl, by rw [← List.cons_append, List.getLast?_append]; rfl⟩]
  simp only [List.tail_cons]
  rw [List.dropLast_concat]
theorem unq_bad {s : List UInt8} (h : s.length < 2 ∨ s.getD 0 0 ≠ 34 ∨ s.getD (s.length - 1) 0 ≠ 34) : Ty.unq s = none := by
  unfold Ty.unq
  rw [if_neg]
  rintro ⟨h1, h2, h3⟩
  have hne : s ≠ [] := by rintro rfl; simp at h1
  rcases h with h | h | h
  · omega
  · apply h
    cases s with
    | nil => simp at h1
    | cons a r => simp at h2; rw [h2]; rfl
  · apply h
    rw [List.getLast?_eq_getElem?] at h3
    simp [List.getD, h3]
theorem unq_split {s : List UInt8} (h1 : 2 ≤ s.length) (h2 : s.getD 0 0 = 34) (h3 : s.getD (s.length - 1) 0 = 34) : ∃ t : List UInt8, s = 34 :: (t ++ [34]) ∧ t.length = s.length - 2 ∧ ∀ j, j < t.length → s.getD (j + 1) 0 = t.getD j 0 := by
  cases s with
  | nil => simp at h1
  | cons a r =>
    have hr : r ≠ [] := by rintro rfl; simp at h1
    have ha : a = 34 := h2
    subst ha
    obtain ⟨d, z, rfl⟩ : ∃ d z, r = d ++ [z] := ⟨r.dropLast, r.getLast hr, (List.dropLast_concat_getLast hr).symm⟩
    have hz : z = 34 := by simpa [List.getD] using h3
    subst hz
    refine ⟨d, rfl, by simp, fun j hj => ?_⟩
    show (d ++ [34]).getD j 0 = _
    simp [List.getD, List.getElem?_append_left hj]
end Go.Proofs.YtmolmpgampmolaaGreat
