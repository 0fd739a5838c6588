/-
  Texts joined: TypPar, TypRPar, TypQuo, TypUnq, TypUnw, OctHex, OctHexR.
  Conditions: none.
-/
import Derived.Test.YtmolmpgampmolaaJ01
import Derived.Test.YtmolmpgampmolaaJ03
import Derived.Test.YtmolmpgampmolaaJ04
import Derived.Laws.Concat
import Derived.StillTailTactics
/-
  Walk: types.number.
  Conditions: none.
-/
namespace Go.Proofs.Ytmolmpgampmolaa
set_option linter.unusedVariables false
set_option linter.unusedSimpArgs false
open Go.RowKit
theorem par_form {s : List UInt8} (h : Ty.formN s = false) : Ty.parN s = (0, 4) := by unfold Ty.parN; rw [if_pos h]
theorem form_nil {s : List UInt8} (h : Ty.rest s = []) : Ty.formN s = false := by unfold Ty.formN; rw [h]; rfl
theorem form_zero {s r : List UInt8} (h : Ty.rest s = 48 :: r) (hs : s ≠ [48]) : Ty.formN s = false := by
  unfold Ty.formN
  rw [h]
  simp [hs]
theorem form_all {s r : List UInt8} {i : Nat} (h : Ty.rest s = r) (hi : i < r.length) (hd : Ty.isD (r.getD i 0) = false) : Ty.formN s = false := by
  unfold Ty.formN
  rw [h]
  have : r.all Ty.isD = false := by
    cases hb : r.all Ty.isD with
    | false => rfl
    | true =>
      rw [List.all_eq_true] at hb
      have := hb r[i] (List.getElem_mem hi)
      rw [show r.getD i 0 = r[i] by simp [List.getD, hi]] at hd
      rw [hd] at this
      cases this
  rw [this, Bool.and_false]
theorem form_ok {s r : List UInt8} {c : UInt8} (h : Ty.rest s = c :: r) (hz : c ≠ 48 ∨ s = [48]) (hd : ∀ i, i < (c :: r).length → Ty.isD ((c :: r).getD i 0) = true) : Ty.formN s = true := by
  unfold Ty.formN
  rw [h]
  have : (c :: r).all Ty.isD = true := by
    rw [List.all_eq_true]
    intro x hx
    obtain ⟨i, hi, rfl⟩ := List.getElem_of_mem hx
    have := hd i hi
    rw [show (c :: r).getD i 0 = (c :: r)[i] by simp only [List.getD, List.getElem?_eq_getElem hi, Option.getD_some]] at this
    exact this
  rw [this]
  rcases hz with h | h <;> simp [h]
theorem par_range {s : List UInt8} (h : Ty.formN s = true) (hr : 9223372036854775808 < Ty.valD (Ty.rest s) ∨ (Ty.valD (Ty.rest s) = 9223372036854775808 ∧ Ty.minus s = false)) : Ty.parN s = (0, 9) := by
  unfold Ty.parN
  rw [if_neg (by rw [h]; decide), if_pos hr]
theorem par_minus {s : List UInt8} (h : Ty.formN s = true) (hm : Ty.minus s = true) (hr : Ty.valD (Ty.rest s) ≤ 9223372036854775808) : Ty.parN s = (-(Ty.valD (Ty.rest s) : Int), 0) := by
  unfold Ty.parN
  rw [if_neg (by rw [h]; decide), if_neg (by rw [hm]; simp; omega), if_pos hm]
theorem par_plus {s : List UInt8} (h : Ty.formN s = true) (hm : Ty.minus s = false) (hr : Ty.valD (Ty.rest s) < 9223372036854775808) : Ty.parN s = ((Ty.valD (Ty.rest s) : Int), 0) := by
  unfold Ty.parN
  rw [if_neg (by rw [h]; decide), if_neg (by omega), if_neg (by rw [hm]; decide)]
theorem rest_minus (r : List UInt8) : Ty.rest (45 :: r) = r ∧ Ty.minus (45 :: r) = true := ⟨rfl, rfl⟩
theorem rest_plus {c : UInt8} (r : List UInt8) (h : c ≠ 45) : Ty.rest (c :: r) = c :: r ∧ Ty.minus (c :: r) = false := by
  have hm : Ty.minus (c :: r) = false := by unfold Ty.minus; simp [h]
  exact ⟨by unfold Ty.rest; rw [hm]; rfl, hm⟩
/-- What the loop over the first k digits has. -/
structure ParRel (r : List UInt8) (k v : Nat) (e : Int) : Prop where
  hi : v ≤ 9223372036854775809
  dig : ∀ j, j < k → Ty.isD (r.getD j 0) = true
  val : (e = 0 ∧ v = Ty.valD (r.take k)) ∨ (e = 9 ∧ 922337203685477580 < v ∧ 9223372036854775808 < Ty.valD (r.take k))
theorem valD_take {r : List UInt8} {k : Nat} (hk : k < r.length) : Ty.valD (r.take (k + 1)) = 10 * Ty.valD (r.take k) + ((r.getD k 0).toNat - 48) := by
  rw [List.take_succ_eq_append_getElem hk, Ty.valD_snoc]
  simp [List.getD, hk]
theorem ParRel.start (r : List UInt8) : ParRel r 0 0 0 := ⟨by omega, fun j hj => absurd hj (by omega), .inl ⟨rfl, rfl⟩⟩
theorem ParRel.next {r : List UInt8} {k v : Nat} {e : Int} (h : ParRel r k v e) (hk : k < r.length) (hd : Ty.isD (r.getD k 0) = true) (v' : Nat) (e' : Int)
    (hs : (922337203685477580 < v ∧ v' = v ∧ e' = 9) ∨ (v ≤ 922337203685477580 ∧ v' = 10 * v + ((r.getD k 0).toNat - 48) ∧ e' = e)) : ParRel r (k + 1) v' e' := by
  have hc : 48 ≤ (r.getD k 0).toNat ∧ (r.getD k 0).toNat ≤ 57 := of_decide_eq_true hd
  have h1 := h.hi
  have hdig : ∀ j, j < k + 1 → Ty.isD (r.getD j 0) = true := fun j hj => by
    rcases Nat.lt_or_ge j k with h2 | h2
    · exact h.dig j h2
    · obtain rfl : j = k := by omega
      exact hd
  have ht := valD_take hk
  rcases hs with ⟨a1, rfl, rfl⟩ | ⟨a1, rfl, rfl⟩
  · refine ⟨h1, hdig, .inr ⟨rfl, a1, ?_⟩⟩
    rcases h.val with ⟨_, b2⟩ | ⟨_, _, b3⟩
    · rw [ht, ← b2]; omega
    · rw [ht]; omega
  · refine ⟨by omega, hdig, .inl ?_⟩
    rcases h.val with ⟨b1, b2⟩ | ⟨_, b2, _⟩
    · exact ⟨b1, by rw [ht, ← b2]⟩
    · omega
def parRes (p : Int × Int) : Ending := .returned (.tuple #[.int .i64 p.1, .int .i64 p.2])
theorem par_ret {p : Int × Int} {a b : Int} (h : p = (a, b)) : Ending.returned (.tuple #[.int .i64 a, .int .i64 b]) = parRes p := by rw [h]; rfl
theorem neg_u64 (v : Nat) (h : v ≤ 9223372036854775808) : IntKind.i64.wrap (IntKind.u64.wrap (-(v : Int))) = -(v : Int) := by
  rw [IntKind.wrap_u64, IntKind.wrap_i64]
  omega
theorem dig_no {c : UInt8} (h : c.toNat < 48 ∨ 57 < c.toNat) : Ty.isD c = false := decide_eq_false (by omega)
set_option maxRecDepth 100000 in
set_option maxHeartbeats 8000000 in
theorem number_any (s : List UInt8) (w : World) (hs : s.length ≤ 1000000) : Calls Try.prog 67 #[.string (T s)] w fun e w' => e = parRes (Ty.parN s) ∧ w = w' := by
  have hTs := T_toList s
  rcases (show (s = [] ∨ s = [45]) ∨ (∃ r, (s = 45 :: 48 :: r) ∨ (s = 48 :: r ∧ s ≠ [48])) ∨ (∃ d r, s = 45 :: d :: r ∧ d ≠ 48) ∨ s = [48] ∨ (∃ c r, s = c :: r ∧ c ≠ 45 ∧ c ≠ 48) by
    cases s with
    | nil => exact .inl (.inl rfl)
    | cons c r0 =>
      by_cases h45 : c = 45
      · subst h45
        cases r0 with
        | nil => exact .inl (.inr rfl)
        | cons d r =>
          by_cases h48 : d = 48
          · subst h48; exact .inr (.inl ⟨r, .inl rfl⟩)
          · exact .inr (.inr (.inl ⟨d, r, rfl, h48⟩))
      · by_cases h48 : c = 48
        · subst h48
          by_cases hr : r0 = []
          · subst hr; exact .inr (.inr (.inr (.inl rfl)))
          · exact .inr (.inl ⟨r0, .inr ⟨rfl, by simpa using hr⟩⟩)
        · exact .inr (.inr (.inr (.inr ⟨c, r0, rfl, h45, h48⟩)))) with (rfl | rfl) | ⟨r, rfl | ⟨rfl, h48⟩⟩ | ⟨d, r, rfl, h48⟩ | rfl | ⟨c, r, rfl, h45, h48⟩
  · have HF := Lib.hid (par_form (form_nil (s := []) rfl))
    go_enter Try.func67, Try.ntmps67
    go_wp2_with fail
    go_ret2
    exact ⟨par_ret HF.out, rfl⟩
  · have HF := Lib.hid (par_form (form_nil (s := [45]) rfl))
    have hat0 := fun w => run_T_at [45] .i64 0 0 rfl (by simp) w
    rw [show ((([45] : List UInt8).getD 0 0).toNat : Int) = 45 from rfl] at hat0
    have hcut := fun w => run_T_rest [45] .i64 1 1 rfl (by simp) w
    rw [show List.drop 1 ([45] : List UInt8) = [] from rfl] at hcut
    have hT0 := T_toList []
    go_enter Try.func67, Try.ntmps67
    go_wp2_with fail
    go_ret2
    exact ⟨par_ret HF.out, rfl⟩
  · have HF := Lib.hid (par_form (form_zero (s := 45 :: 48 :: r) (r := r) rfl (by simp)))
    have hat0 := fun w => run_T_at (45 :: 48 :: r) .i64 0 0 rfl (by simp) w
    rw [show (((45 :: 48 :: r : List UInt8).getD 0 0).toNat : Int) = 45 from rfl] at hat0
    have hcut := fun w => run_T_rest (45 :: 48 :: r) .i64 1 1 rfl (by simp) w
    rw [show List.drop 1 (45 :: 48 :: r : List UInt8) = 48 :: r from rfl] at hcut
    have hat1 := fun w => run_T_at (48 :: r) .i64 0 0 rfl (by simp) w
    rw [show (((48 :: r : List UInt8).getD 0 0).toNat : Int) = 48 from rfl] at hat1
    have hT0 := T_toList (48 :: r)
    have hb : ((45 :: 48 :: r : List UInt8) == [48]) = false := by simp
    go_enter Try.func67, Try.ntmps67
    go_wp2_with fail
    go_ret2
    exact ⟨par_ret HF.out, rfl⟩
  · have HF := Lib.hid (par_form (form_zero (s := 48 :: r) (r := r) (rest_plus r (by decide)).1 h48))
    have hat1 := fun w => run_T_at (48 :: r) .i64 0 0 rfl (by simp) w
    rw [show (((48 :: r : List UInt8).getD 0 0).toNat : Int) = 48 from rfl] at hat1
    have hb : ((48 :: r : List UInt8) == [48]) = false := by rw [beq_eq_false_iff_ne]; exact h48
    clear h48
    go_enter Try.func67, Try.ntmps67
    go_wp2_with fail
    go_ret2
    exact ⟨par_ret HF.out, rfl⟩
  case' inr.inr.inl =>
    have hat0 := fun w => run_T_at (45 :: d :: r) .i64 0 0 rfl (by simp) w
    rw [show (((45 :: d :: r : List UInt8).getD 0 0).toNat : Int) = 45 from rfl] at hat0
    have hcut := fun w => run_T_rest (45 :: d :: r) .i64 1 1 rfl (by simp) w
    rw [show List.drop 1 (45 :: d :: r : List UInt8) = d :: r from rfl] at hcut
    have hat1 := fun w => run_T_at (d :: r) .i64 0 0 rfl (by simp) w
    rw [show (((d :: r : List UInt8).getD 0 0).toNat : Int) = (d.toNat : Int) from rfl] at hat1
    have hT0 := T_toList (d :: r)
    have hx : ((d.toNat : Int) == 48) = false := byte_beq d 48 ▸ (by simpa using h48)
    have hne : (d :: r : List UInt8).isEmpty = false := rfl
    have hne2 : (45 :: d :: r : List UInt8).isEmpty = false := rfl
    have HOK := Lib.hid (fun hd => form_ok (s := 45 :: d :: r) (c := d) (r := r) rfl (.inl h48) hd)
    have HBAD := Lib.hid (fun i (hi : i < (d :: r).length) hd => form_all (s := 45 :: d :: r) (r := d :: r) rfl hi hd)
    obtain ⟨mn, hmn⟩ : ∃ mn, mn = true := ⟨_, rfl⟩
    have HM := Lib.hid (show Ty.minus (45 :: d :: r) = mn by rw [hmn]; rfl)
    have HR := Lib.hid (show Ty.rest (45 :: d :: r) = d :: r from rfl)
    have hl : (d :: r).length ≤ 1000000 := by simp at hs ⊢; omega
    generalize (45 :: d :: r : List UInt8) = s at *
    generalize (d :: r : List UInt8) = l at *
    clear hs h48
    subst hmn
  case' inr.inr.inr.inl =>
    have hat1 := fun w => run_T_at ([48] : List UInt8) .i64 0 0 rfl (by simp) w
    rw [show (((([48] : List UInt8)).getD 0 0).toNat : Int) = 48 from rfl] at hat1
    have hT0 := T_toList ([48] : List UInt8)
    have hne : ([48] : List UInt8).isEmpty = false := rfl
    have HOK := Lib.hid (fun hd => form_ok (s := [48]) (c := 48) (r := []) rfl (.inr rfl) hd)
    have HBAD := Lib.hid (fun i (hi : i < ([48] : List UInt8).length) hd => form_all (s := [48]) (r := [48]) rfl hi hd)
    have HM := Lib.hid (show Ty.minus [48] = false from rfl)
    have HR := Lib.hid (show Ty.rest [48] = [48] from rfl)
    have hl : ([48] : List UInt8).length ≤ 1000000 := by simp
    generalize hl48 : ([48] : List UInt8) = l at *
    have hx : (l == [48]) = true := by rw [← hl48]; rfl
    clear hs hl48
  case' inr.inr.inr.inr =>
    have hat1 := fun w => run_T_at (c :: r) .i64 0 0 rfl (by simp) w
    rw [show ((((c :: r)).getD 0 0).toNat : Int) = (c.toNat : Int) from rfl] at hat1
    have hT0 := T_toList (c :: r)
    have hx : ((c.toNat : Int) == 48) = false := byte_beq c 48 ▸ (by simpa using h48)
    have hx2 : ((c.toNat : Int) == 45) = false := byte_beq c 45 ▸ (by simpa using h45)
    have hne : (c :: r).isEmpty = false := rfl
    have HOK := Lib.hid (fun hd => form_ok (s := c :: r) (c := c) (r := r) (rest_plus r h45).1 (.inl h48) hd)
    have HBAD := Lib.hid (fun i (hi : i < (c :: r).length) hd => form_all (s := c :: r) (r := c :: r) (rest_plus r h45).1 hi hd)
    have HM := Lib.hid (rest_plus r h45).2
    have HR := Lib.hid (rest_plus r h45).1
    have hl : (c :: r).length ≤ 1000000 := hs
    generalize (c :: r) = l at *
    clear hs h48 h45
  all_goals
    go_enter Try.func67, Try.ntmps67
    go_wp2_with fail
    go_loop [6, 7, 33] (fun v e i => ∃ (k V : Nat) (E : Int), k ≤ l.length ∧ i = .int .i64 k ∧ v = .int .u64 (V : Int) ∧ e = .int .i64 E ∧ ParRel l k V E) (fun _ _ i => l.length - (intOf i).toNat)
    case atStart => exact ⟨0, 0, 0, by omega, rfl, rfl, rfl, ParRel.start l⟩
    case round =>
      obtain ⟨k, V, E, hk, rfl, rfl, rfl, hrel⟩ := hrel
      have hV := hrel.hi
      have HREL := Lib.hid hrel; clear hrel
      by_cases hlt : k < l.length
      · have hat := fun w => run_T_at l .i64 (k : Int) k rfl hlt w
        have hx3 := byte_lt (l.getD k 0)
        have hnx := HREL.out.next hlt
        have hbad := HBAD.out k hlt
        generalize l.getD k 0 = x at *
        have HNX := Lib.hid hnx; have HB := Lib.hid hbad
        clear hnx hbad hat1
        rcases (show x.toNat < 48 ∨ (48 ≤ x.toNat ∧ 57 < x.toNat) ∨ (48 ≤ x.toNat ∧ x.toNat ≤ 57) by omega) with h | ⟨h1, h2⟩ | ⟨h1, h2⟩
        · have HF := Lib.hid (par_form (HB.out (dig_no (.inl h))))
          go_wp2_with fail
          go_ret2
          exact ⟨par_ret HF.out, rfl⟩
        · have HF := Lib.hid (par_form (HB.out (dig_no (.inr h2))))
          go_wp2_with fail
          go_ret2
          exact ⟨par_ret HF.out, rfl⟩
        · have hD : Ty.isD x = true := decide_eq_true ⟨h1, h2⟩
          have HD := Lib.hid hD; clear hD
          by_cases hbig : 922337203685477580 < V
          · go_wp2_with fail
            go_round
            case rel => exact ⟨k + 1, V, 9, by omega, by go_num, rfl, rfl, HNX.out HD.out V 9 (.inl ⟨hbig, rfl, rfl⟩)⟩
            case measure => simp [intOf] <;> omega
          · have hsm : V ≤ 922337203685477580 := by omega
            clear hbig
            go_wp2_with fail
            go_round
            case rel => exact ⟨k + 1, 10 * V + (x.toNat - 48), E, by omega, by go_num, by go_num, rfl, HNX.out HD.out _ E (.inr ⟨hsm, rfl, rfl⟩)⟩
            case measure => simp [intOf] <;> omega
      · obtain rfl : k = l.length := by omega
        have htk : l.take l.length = l := List.take_length
        have hval := HREL.out.val
        rw [htk] at hval
        have HF := Lib.hid (HOK.out fun i hi => HREL.out.dig i hi)
        have HVAL := Lib.hid hval
        clear htk hat1 hval
        by_cases hE : E = 0
        · subst hE
          have hv : V = Ty.valD l := by rcases HVAL.out with h | ⟨h, _⟩; exact h.2; exact absurd h (by decide)
          have HV := Lib.hid hv; clear hv
          rcases (show 9223372036854775808 < V ∨ V = 9223372036854775808 ∨ V < 9223372036854775808 by omega) with h | rfl | h
          · have HP := Lib.hid (par_range HF.out (.inl (by rw [HR.out, ← HV.out]; exact h)))
            go_wp2_with fail
            go_ret2
            exact ⟨par_ret HP.out, rfl⟩
          · have hw0 : wrap64 (IntKind.u64.wrap (-9223372036854775808)) = -9223372036854775808 := by decide +kernel
            go_wp2_with fail
            go_ret2
            first
              | exact ⟨par_ret (par_range HF.out (.inr ⟨by rw [HR.out, ← HV.out], HM.out⟩)), rfl⟩
              | exact ⟨by rw [par_minus HF.out HM.out (by rw [HR.out, ← HV.out]; exact Nat.le_refl _), HR.out, ← HV.out]; rfl, rfl⟩
          · have hw1 : IntKind.i64.wrap (IntKind.u64.wrap (-(V : Int))) = -(V : Int) := neg_u64 V (by omega)
            have HW := Lib.hid h
            have hw2 : IntKind.i64.wrap (V : Int) = (V : Int) := by rw [IntKind.wrap_i64]; omega
            go_wp2_with fail
            go_ret2
            first
              | exact ⟨par_ret (by rw [par_plus HF.out HM.out (by rw [HR.out, ← HV.out]; exact HW.out), HR.out, ← HV.out]), rfl⟩
              | exact ⟨par_ret (by rw [par_minus HF.out HM.out (by rw [HR.out, ← HV.out]; have := HW.out; omega), HR.out, ← HV.out]), rfl⟩
        · have hb : (E != 0) = true := by simpa using hE
          have HP : Hid (Ty.parN _ = (0, 9)) := Lib.hid (par_range HF.out (.inl (by
            rw [HR.out]
            rcases HVAL.out with h | h
            · exact absurd h.1 hE
            · exact h.2.2)))
          clear hE
          go_wp2_with fail
          go_ret2
          exact ⟨par_ret HP.out, rfl⟩
end Go.Proofs.Ytmolmpgampmolaa
/-
  Not of this seat.
  Conditions: none.
-/
/-
  Walks: types.quote, unquote, the reference's text.
  Conditions: none.
-/
namespace Go.Proofs.Ytmolmpgampmolaa
set_option linter.unusedVariables false
set_option linter.unusedSimpArgs false
open Go.RowKit
theorem esc_append (a b : List UInt8) : Ty.esc (a ++ b) = Ty.esc a ++ Ty.esc b := by unfold Ty.esc; exact List.flatMap_append
theorem esc_one (x : UInt8) : Ty.esc [x] = if Ty.mark x = true then [92, x] else [x] := by simp [Ty.esc]
theorem esc_snoc {l : List UInt8} {k : Nat} (hk : k < l.length) : Ty.esc (l.take (k + 1)) = Ty.esc (l.take k) ++ (if Ty.mark (l.getD k 0) = true then [92, l.getD k 0] else [l.getD k 0]) := by
  rw [List.take_succ_eq_append_getElem hk, esc_append, esc_one, show l.getD k 0 = l[k] by simp [List.getD, hk]]
theorem esc_len : ∀ (l : List UInt8), (Ty.esc l).length ≤ 2 * l.length
  | [] => by simp [Ty.esc]
  | c :: l => by
    have := esc_len l
    rw [show c :: l = [c] ++ l from rfl, esc_append, esc_one, List.length_append, List.length_append]
    generalize (Ty.esc l).length = m at *
    split <;> simp <;> omega
theorem quo_len (l : List UInt8) : (Ty.quo l).length ≤ 2 * l.length + 2 := by
  have := esc_len l
  unfold Ty.quo
  simp
  omega
set_option maxRecDepth 100000 in
set_option maxHeartbeats 4000000 in
theorem quote_any {A : Option Addr} {n c B : Nat} {l : List UInt8} (w : World) (hb : RB w B A n c l) (hn : n ≤ 1000000) (hB : B ≤ w.heap.size) : Calls Try.prog 63 #[.slice A n c] w fun e w' => e = .returned (.string (T (Ty.quo l))) ∧ Below w.heap.size w w' := by
  have hl := hb.len
  have HL := Lib.hid hl
  have o0 := OB.new (base := w.heap.size) w [34] 1 rfl (by omega) (Nat.le_refl _)
  have b0 := alloc_one w (.cells #[.int .u8 34] 5)
  clear hl
  go_enter Try.func63, Try.ntmps63
  go_wp2_with fail
  go_loopw [3, 9] (fun v i wr => ∃ (k m : Nat) (A1 : Option Addr) (c1 : Nat), k ≤ n ∧ i = .int .i64 k ∧ v = .slice A1 m c1 ∧ m ≤ 2 * k + 1 ∧ OB wr w.heap.size A1 m c1 (34 :: Ty.esc (l.take k)) ∧ Below w.heap.size w wr) (fun _ i _ => n - (intOf i).toNat)
  case atStart => exact ⟨0, 1, _, _, by omega, rfl, rfl, by omega, o0, b0⟩
  case round =>
    clear o0 b0
    obtain ⟨k, m, A1, c1, hk, rfl, rfl, hm, ob, bb⟩ := hrel
    have hz := bb.size
    by_cases hlt : k < n
    · obtain ⟨b, o, rfl, hbB, hc⟩ := (hb.below (bb.mono hB)).at_ (show 0 < n by omega)
      have hck := hc k hlt
      have hx := byte_lt (l.getD k 0)
      have hes := esc_snoc (l := l) (k := k) (by have := HL.out; omega)
      generalize l.getD k 0 = x at *
      have HES := Lib.hid hes
      clear hc hes
      by_cases hmk : Ty.mark x = true
      · have hes2 := HES.out
        rw [if_pos hmk] at hes2
        have HE2 := Lib.hid hes2
        have h3 : x.toNat = 34 ∨ (x.toNat ≠ 34 ∧ x.toNat = 92) := by
          unfold Ty.mark at hmk
          simp only [Bool.or_eq_true, beq_iff_eq] at hmk
          rcases hmk with rfl | rfl
          · exact .inl rfl
          · exact .inr ⟨by decide, rfl⟩
        clear hes2 hmk HES
        rcases h3 with h3 | ⟨h3, h4⟩
        · have e1 : ((x.toNat : Int) == 34) = true := by rw [h3]; rfl
          clear h3
          go_wp2_with (first
            | (at_builtin; refine wpList_appb_one etb rfl (.tmp 19) (.tmp 20) rfl rfl rfl w.heap.size ob 92 rfl (by omega) hz ?_; intro A2 c2 w2 o2 b2 _ _; have hz2 := Nat.le_trans hz b2.size; have q2 := (hb.below ((bb.trans b2).mono hB)))
            | (at_builtin; refine wpList_appb_one etb rfl (.tmp 22) (.tmp 24) rfl rfl rfl w.heap.size o2 x rfl (by omega) hz2 ?_; intro A3 c3 w3 o3 b3 _ _))
          go_roundw
          case rel => exact ⟨k + 1, m + 1 + 1, A3, c3, by omega, by go_num, rfl, by omega, by rw [HE2.out]; simpa using o3, (bb.trans b2).trans b3⟩
          case measure => simp [intOf] <;> omega
        · have e1 : ((x.toNat : Int) == 34) = false := by rw [beq_eq_false_iff_ne]; omega
          have e2 : ((x.toNat : Int) == 92) = true := by rw [h4]; rfl
          clear h3 h4
          go_wp2_with (first
            | (at_builtin; refine wpList_appb_one etb rfl (.tmp 19) (.tmp 20) rfl rfl rfl w.heap.size ob 92 rfl (by omega) hz ?_; intro A2 c2 w2 o2 b2 _ _; have hz2 := Nat.le_trans hz b2.size)
            | (at_builtin; refine wpList_appb_one etb rfl (.tmp 22) (.tmp 24) rfl rfl rfl w.heap.size o2 x rfl (by omega) hz2 ?_; intro A3 c3 w3 o3 b3 _ _))
          go_roundw
          case rel => exact ⟨k + 1, m + 1 + 1, A3, c3, by omega, by go_num, rfl, by omega, by rw [HE2.out]; simpa using o3, (bb.trans b2).trans b3⟩
          case measure => simp [intOf] <;> omega
      · have hes2 := HES.out
        rw [if_neg hmk] at hes2
        have HE2 := Lib.hid hes2
        have h3 : x.toNat ≠ 34 ∧ x.toNat ≠ 92 := by
          refine ⟨fun h => hmk ?_, fun h => hmk ?_⟩
          · have : x = 34 := UInt8.toNat_inj.1 h
            rw [this]; rfl
          · have : x = 92 := UInt8.toNat_inj.1 h
            rw [this]; rfl
        have e1 : ((x.toNat : Int) == 34) = false := by rw [beq_eq_false_iff_ne]; omega
        have e2 : ((x.toNat : Int) == 92) = false := by rw [beq_eq_false_iff_ne]; omega
        clear hes2 hmk h3 HES
        go_wp2_with (at_builtin; refine wpList_appb_one etb rfl (.tmp 22) (.tmp 24) rfl rfl rfl w.heap.size ob x rfl (by omega) hz ?_; intro A3 c3 w3 o3 b3 _ _)
        go_roundw
        case rel => exact ⟨k + 1, m + 1, A3, c3, by omega, by go_num, rfl, by omega, by rw [HE2.out]; simpa using o3, bb.trans b3⟩
        case measure => simp [intOf] <;> omega
    · obtain rfl : k = n := by omega
      have htk : l.take k = l := List.take_of_length_le (by have := HL.out; omega)
      rw [htk] at ob
      have HQ := Lib.hid (show (34 :: Ty.esc l) ++ [34] = Ty.quo l from rfl)
      clear htk
      go_wp2_with (at_builtin; refine wpList_appb_one etb rfl (.tmp 27) (.tmp 28) rfl rfl rfl w.heap.size ob 34 rfl (by omega) hz ?_; intro A3 c3 w3 o3 b3 _ _; have e3 := convb o3.rb)
      go_ret
      exact ⟨by rw [← HQ.out]; rfl, bb.trans b3⟩
end Go.Proofs.Ytmolmpgampmolaa
/-
  Walks: types.unquote, the reference's text.
  Conditions: none.
-/
namespace Go.Proofs.Ytmolmpgampmolaa
set_option linter.unusedVariables false
set_option linter.unusedSimpArgs false
open Go.RowKit
def UnqPost (o : Option (List UInt8)) (w : World) (e : Ending) (w' : World) : Prop :=
  ∃ A n c, Below w.heap.size w w' ∧ match o with
    | some b => e = .returned (.tuple #[.slice A n c, .bool true]) ∧ OB w' w.heap.size A n c b
    | none => e = .returned (.tuple #[.slice A n c, .bool false])
theorem unq_no {o : Option (List UInt8)} {w w' : World} {A : Option Addr} {n c : Nat} (h : o = none) (hb : Below w.heap.size w w') : UnqPost o w (.returned (.tuple #[.slice A n c, .bool false])) w' := by
  subst h; exact ⟨A, n, c, hb, rfl⟩
theorem unq_yes {o : Option (List UInt8)} {w w' : World} {A : Option Addr} {n c : Nat} {b : List UInt8} (h : o = some b) (ho : OB w' w.heap.size A n c b) (hb : Below w.heap.size w w') : UnqPost o w (.returned (.tuple #[.slice A n c, .bool true])) w' := by
  subst h; exact ⟨A, n, c, hb, rfl, ho⟩
/-- What is left, with the sign ahead that masks. -/
def st (m : Bool) (t : List UInt8) : List UInt8 := if m = true then 92 :: t else t
theorem un_masked_no {c : UInt8} {r : List UInt8} (h : Ty.mark c = false) : Ty.unF (92 :: c :: r) = none := by
  rw [Ty.unF, if_neg (by decide), if_pos rfl, if_neg (by rw [h]; decide)]
theorem un_masked_yes {c : UInt8} {r : List UInt8} (h : Ty.mark c = true) : Ty.unF (92 :: c :: r) = (Ty.unF r).map (c :: ·) := by
  rw [Ty.unF, if_neg (by decide), if_pos rfl, if_pos h]
theorem un_sign (r : List UInt8) : Ty.unF (34 :: r) = none := by
  cases r with
  | nil => rfl
  | cons d r => rw [Ty.unF, if_pos rfl]
theorem un_plain {c : UInt8} (r : List UInt8) (h : Ty.mark c = false) : Ty.unF (c :: r) = (Ty.unF r).map (c :: ·) := by
  have h34 : c ≠ 34 := fun e => by rw [e] at h; cases h
  have h92 : c ≠ 92 := fun e => by rw [e] at h; cases h
  cases r with
  | nil => simp [Ty.unF, h]
  | cons d r => rw [Ty.unF, if_neg h34, if_neg h92]
theorem map_snoc (o : Option (List UInt8)) (out : List UInt8) (c : UInt8) : (o.map (c :: ·)).map (out ++ ·) = o.map ((out ++ [c]) ++ ·) := by cases o <;> simp
/-- What the loop has behind j bytes. -/
structure UnRel (t : List UInt8) (j : Nat) (m : Bool) (out : List UInt8) : Prop where
  val : Ty.unF t = (Ty.unF (st m (t.drop j))).map (out ++ ·)
  len : out.length ≤ j
theorem UnRel.start (t : List UInt8) : UnRel t 0 false [] := ⟨by simp [st], by simp⟩
theorem drop_at {t : List UInt8} {j : Nat} (hj : j < t.length) : t.drop j = t.getD j 0 :: t.drop (j + 1) := by
  rw [List.drop_eq_getElem_cons hj]; simp [List.getD, hj]
theorem UnRel.bad {t : List UInt8} {j : Nat} {m : Bool} {out : List UInt8} (h : UnRel t j m out) (hj : j < t.length) (hc : (m = true ∧ Ty.mark (t.getD j 0) = false) ∨ (m = false ∧ t.getD j 0 = 34)) : Ty.unF t = none := by
  have := h.val
  rw [drop_at hj] at this
  rcases hc with ⟨rfl, hc⟩ | ⟨rfl, hc⟩
  · rw [st, if_pos rfl, un_masked_no hc] at this; exact this
  · rw [st, if_neg (by decide), hc, un_sign] at this; exact this
theorem UnRel.mask {t : List UInt8} {j : Nat} {out : List UInt8} (h : UnRel t j false out) (hj : j < t.length) (hc : t.getD j 0 = 92) : UnRel t (j + 1) true out := by
  refine ⟨?_, by have := h.len; omega⟩
  rw [h.val, drop_at hj, hc]
  rfl
theorem UnRel.push {t : List UInt8} {j : Nat} {m : Bool} {out : List UInt8} (h : UnRel t j m out) (hj : j < t.length) (hc : m = Ty.mark (t.getD j 0)) : UnRel t (j + 1) false (out ++ [t.getD j 0]) := by
  refine ⟨?_, by have := h.len; simp; omega⟩
  rw [h.val, drop_at hj]
  cases m with
  | true => rw [st, if_pos rfl, un_masked_yes hc.symm, map_snoc]; rfl
  | false => rw [st, if_neg (by decide), un_plain _ hc.symm, map_snoc]; rfl
theorem UnRel.done {t : List UInt8} {m : Bool} {out : List UInt8} (h : UnRel t t.length m out) : Ty.unF t = if m = true then none else some out := by
  have := h.val
  rw [List.drop_length] at this
  rw [this]
  cases m with
  | true => rfl
  | false => simp [st, Ty.unF]
theorem unq_mid (t : List UInt8) : Ty.unq (34 :: (t ++ [34])) = Ty.unF t := by
  unfold Ty.unq
  rw [if_pos ⟨by simp, rfl, by rw [← List.cons_append, List.getLast?_append]; rfl⟩]
  simp only [List.tail_cons]
  rw [List.dropLast_concat]
theorem unq_bad {s : List UInt8} (h : s.length < 2 ∨ s.getD 0 0 ≠ 34 ∨ s.getD (s.length - 1) 0 ≠ 34) : Ty.unq s = none := by
  unfold Ty.unq
  rw [if_neg]
  rintro ⟨h1, h2, h3⟩
  have hne : s ≠ [] := by rintro rfl; simp at h1
  rcases h with h | h | h
  · omega
  · apply h
    cases s with
    | nil => simp at h1
    | cons a r => simp at h2; rw [h2]; rfl
  · apply h
    rw [List.getLast?_eq_getElem?] at h3
    simp [List.getD, h3]
theorem unq_split {s : List UInt8} (h1 : 2 ≤ s.length) (h2 : s.getD 0 0 = 34) (h3 : s.getD (s.length - 1) 0 = 34) : ∃ t : List UInt8, s = 34 :: (t ++ [34]) ∧ t.length = s.length - 2 ∧ ∀ j, j < t.length → s.getD (j + 1) 0 = t.getD j 0 := by
  cases s with
  | nil => simp at h1
  | cons a r =>
    have hr : r ≠ [] := by rintro rfl; simp at h1
    have ha : a = 34 := h2
    subst ha
    obtain ⟨d, z, rfl⟩ : ∃ d z, r = d ++ [z] := ⟨r.dropLast, r.getLast hr, (List.dropLast_concat_getLast hr).symm⟩
    have hz : z = 34 := by simpa [List.getD] using h3
    subst hz
    refine ⟨d, rfl, by simp, fun j hj => ?_⟩
    show (d ++ [34]).getD j 0 = _
    simp [List.getD, List.getElem?_append_left hj]
end Go.Proofs.Ytmolmpgampmolaa
/-
  Walks: types.unquote, the reference's text.
  Conditions: none.
-/
namespace Go.Proofs.Ytmolmpgampmolaa
set_option linter.unusedVariables false
set_option linter.unusedSimpArgs false
open Go.RowKit
def UnqRel (t : List UInt8) (w : World) (o m i : Value) (wr : World) : Prop := ∃ (j : Nat) (x : Bool) (out : List UInt8) (A : Option Addr) (c : Nat), j ≤ t.length ∧ i = .int .i64 ((j : Int) + 1) ∧ m = .bool x ∧ o = .slice A out.length c ∧ UnRel t j x out ∧ OB wr w.heap.size A out.length c out ∧ Below w.heap.size w wr
theorem sign_cases (x : UInt8) : (x = 34 ∧ Ty.mark x = true ∧ ((x.toNat : Int) == 34) = true) ∨ (x = 92 ∧ Ty.mark x = true ∧ ((x.toNat : Int) == 34) = false ∧ ((x.toNat : Int) == 92) = true) ∨ (Ty.mark x = false ∧ ((x.toNat : Int) == 34) = false ∧ ((x.toNat : Int) == 92) = false) := by
  by_cases h1 : x = 34
  · subst h1; exact .inl ⟨rfl, rfl, rfl⟩
  · have e1 : ((x.toNat : Int) == 34) = false := by
      rw [beq_eq_false_iff_ne]
      intro h
      exact h1 (UInt8.toNat_inj.1 (by have : (34 : UInt8).toNat = 34 := rfl; omega))
    by_cases h2 : x = 92
    · subst h2; exact .inr (.inl ⟨rfl, rfl, rfl, rfl⟩)
    · have e2 : ((x.toNat : Int) == 92) = false := by
        rw [beq_eq_false_iff_ne]
        intro h
        exact h2 (UInt8.toNat_inj.1 (by have : (92 : UInt8).toNat = 92 := rfl; omega))
      refine .inr (.inr ⟨?_, e1, e2⟩)
      unfold Ty.mark
      simp [h1, h2]
theorem neq_of_beq {x : UInt8} {b : Bool} (h : (x == 34) = b) : ((x.toNat : Int) != 34) = !b := by
  rw [← h, ← byte_beq x 34]; rfl
set_option maxRecDepth 100000 in
set_option maxHeartbeats 8000000 in
theorem unquote_any (s : List UInt8) (w : World) (hs : s.length ≤ 1000000) : Calls Try.prog 80 #[.string (T s)] w (UnqPost (Ty.unq s) w) := by
  have hT := T_size s
  by_cases h2 : s.length < 2
  · have HU := Lib.hid (unq_bad (s := s) (.inl h2))
    go_enter Try.func80, Try.ntmps80
    go_wp2_with fail
    go_ret2
    exact unq_no HU.out (Below.refl _ _)
  · have hat0 := fun w => run_T_at s .i64 0 0 rfl (by omega) w
    have hatn := fun w => run_T_at s .i64 ((s.length : Int) - 1) (s.length - 1) (by omega) (by omega) w
    have hun := unq_bad (s := s)
    have hsp := unq_split (s := s) (by omega)
    by_cases h0 : s.getD 0 0 = 34
    · rw [h0] at hat0
      by_cases hn : s.getD (s.length - 1) 0 = 34
      · rw [hn] at hatn
        obtain ⟨t, ht1, ht2, ht3⟩ := hsp h0 hn
        have hu : Ty.unq s = Ty.unF t := by rw [ht1]; exact unq_mid t
        have HU := Lib.hid hu; have HT3 := Lib.hid ht3
        have htl : t.length + 2 ≤ s.length := by omega
        have htl2 : s.length ≤ t.length + 2 := by omega
        have o0 := OB.new (base := w.heap.size) w [] 0 rfl (by omega) (Nat.le_refl _)
        have b0 := alloc_one w (.cells #[] 5)
        clear hun hsp h0 hn hu ht1 ht2 ht3
        go_enter Try.func80, Try.ntmps80
        go_wp2_with fail
        go_loopw [5, 6, 7] (fun o m i wr => UnqRel t w o m i wr) (fun _ _ i _ => t.length + 1 - (intOf i).toNat)
        case atStart => exact ⟨0, false, [], _, _, by omega, rfl, rfl, rfl, UnRel.start t, o0, b0⟩
        case round =>
          clear o0 b0 hat0 hatn
          obtain ⟨j, m, out, A, c, hj, rfl, rfl, rfl, hr, ob, bb⟩ := hrel
          have hol := hr.len
          have HR := Lib.hid hr; clear hr
          have hz := bb.size
          by_cases hlt : j < t.length
          · have hat := fun w => run_T_at s .i64 ((j : Int) + 1) (j + 1) (by omega) (by omega) w
            rw [HT3.out j hlt] at hat
            have hbad := HR.out.bad hlt
            have hpush := HR.out.push hlt
            have hmask : m = false → t.getD j 0 = 92 → UnRel t (j + 1) true out := fun h => by subst h; exact HR.out.mask hlt
            generalize t.getD j 0 = x at *
            have HB := Lib.hid hbad; have HP := Lib.hid hpush; have HM := Lib.hid hmask
            clear hbad hpush hmask
            rcases sign_cases x with ⟨hx, hm, e1⟩ | ⟨hx, hm, e1, e2⟩ | ⟨hm, e1, e2⟩
            · have HX := Lib.hid hx; have HMK := Lib.hid hm
              clear hx hm
              cases m with
              | true =>
                have HP2 := Lib.hid (HP.out HMK.out.symm)
                go_wp2_with (at_builtin; refine wpList_appb_one etb rfl (.tmp 60) (.tmp 62) rfl rfl rfl w.heap.size ob x rfl (by omega) hz ?_; intro A3 c3 w3 o3 b3 _ _)
                go_roundw
                case rel => exact ⟨j + 1, false, out ++ [x], A3, c3, by omega, by go_num, rfl, by simp, HP2.out, by simpa using o3, bb.trans b3⟩
                case measure => simp [intOf] <;> omega
              | false =>
                have HN := Lib.hid (HB.out (.inr ⟨rfl, HX.out⟩))
                go_wp2_with fail
                go_ret2
                exact unq_no (by rw [HU.out, HN.out]) bb
            · have HX := Lib.hid hx; have HMK := Lib.hid hm
              clear hx hm
              cases m with
              | true =>
                have HP2 := Lib.hid (HP.out HMK.out.symm)
                go_wp2_with (at_builtin; refine wpList_appb_one etb rfl (.tmp 60) (.tmp 62) rfl rfl rfl w.heap.size ob x rfl (by omega) hz ?_; intro A3 c3 w3 o3 b3 _ _)
                go_roundw
                case rel => exact ⟨j + 1, false, out ++ [x], A3, c3, by omega, by go_num, rfl, by simp, HP2.out, by simpa using o3, bb.trans b3⟩
                case measure => simp [intOf] <;> omega
              | false =>
                have HM2 := Lib.hid (HM.out rfl HX.out)
                go_wp2_with fail
                go_roundw
                case rel => exact ⟨j + 1, true, out, A, c, by omega, by go_num, rfl, rfl, HM2.out, ob, bb⟩
                case measure => simp [intOf] <;> omega
            · have HMK := Lib.hid hm
              clear hm
              cases m with
              | true =>
                have HN := Lib.hid (HB.out (.inl ⟨rfl, HMK.out⟩))
                go_wp2_with fail
                go_ret2
                exact unq_no (by rw [HU.out, HN.out]) bb
              | false =>
                have HP2 := Lib.hid (HP.out HMK.out.symm)
                go_wp2_with (at_builtin; refine wpList_appb_one etb rfl (.tmp 60) (.tmp 62) rfl rfl rfl w.heap.size ob x rfl (by omega) hz ?_; intro A3 c3 w3 o3 b3 _ _)
                go_roundw
                case rel => exact ⟨j + 1, false, out ++ [x], A3, c3, by omega, by go_num, rfl, by simp, HP2.out, by simpa using o3, bb.trans b3⟩
                case measure => simp [intOf] <;> omega
          · obtain rfl : j = t.length := by omega
            have HD := Lib.hid HR.out.done
            cases m with
            | true =>
              go_wp2_with fail
              go_ret2
              exact unq_no (by rw [HU.out, HD.out]; rfl) bb
            | false =>
              go_wp2_with fail
              go_ret2
              exact unq_yes (by rw [HU.out, HD.out]; rfl) ob bb
      · have HU := Lib.hid (hun (.inr (.inr hn)))
        have e1 : (((s.getD (s.length - 1) 0).toNat : Int) != 34) = true := neq_of_beq (b := false) (by simpa using hn)
        generalize s.getD (s.length - 1) 0 = z at *
        clear hun hsp hn h0
        go_enter Try.func80, Try.ntmps80
        go_wp2_with fail
        go_ret2
        exact unq_no HU.out (Below.refl _ _)
    · have HU := Lib.hid (hun (.inr (.inl h0)))
      have e1 : (((s.getD 0 0).toNat : Int) != 34) = true := neq_of_beq (b := false) (by simpa using h0)
      generalize s.getD 0 0 = z at *
      clear hun hsp h0
      go_enter Try.func80, Try.ntmps80
      go_wp2_with fail
      go_ret2
      exact unq_no HU.out (Below.refl _ _)
end Go.Proofs.Ytmolmpgampmolaa
/-
  Walks: the program's nibble and Hex, the reference's digit.
  Conditions: none.
-/
namespace Go.Proofs.Ytmolmpgampmolaa
set_option linter.unusedVariables false
set_option linter.unusedSimpArgs false
open Go.RowKit
set_option maxHeartbeats 1000000 in
theorem nibble_some (c : UInt8) (k : Nat) (w : World) (h : Oct.nib c = some k) :
    Calls Try.prog 85 #[.int .u8 (c.toNat : Int)] w fun e w' => e = .returned (.tuple #[.int .u8 (k : Int), .bool true]) ∧ w = w' := by
  have hc := byte_lt c
  unfold Oct.nib at h
  generalize c.toNat = d at *
  by_cases h1 : 48 ≤ d ∧ d ≤ 57
  · rw [if_pos h1] at h
    injection h with h
    obtain ⟨h1, h2⟩ := h1
    obtain ⟨k', rfl⟩ : ∃ k', d = k' + 48 := ⟨d - 48, by omega⟩
    obtain rfl : k' = k := by omega
    clear h
    go_enter Try.func85, Try.ntmps85
    go_wp2_with fail
    go_ret2
    exact ⟨rfl, rfl⟩
  · rw [if_neg h1] at h
    by_cases h2 : 97 ≤ d ∧ d ≤ 102
    · rw [if_pos h2] at h
      injection h with h
      clear h1
      obtain ⟨h1, h2⟩ := h2
      obtain ⟨k', rfl⟩ : ∃ k', d = k' + 97 := ⟨d - 97, by omega⟩
      obtain rfl : k' + 10 = k := by omega
      clear h
      go_enter Try.func85, Try.ntmps85
      go_wp2_with fail
      go_ret2
      exact ⟨rfl, rfl⟩
    · rw [if_neg h2] at h
      cases h
set_option maxHeartbeats 1000000 in
theorem nibble_none (c : UInt8) (w : World) (h : Oct.nib c = none) :
    Calls Try.prog 85 #[.int .u8 (c.toNat : Int)] w fun e w' => e = .returned (.tuple #[.int .u8 0, .bool false]) ∧ w = w' := by
  have hc := byte_lt c
  unfold Oct.nib at h
  generalize c.toNat = d at *
  split at h
  · cases h
  · rename_i h1
    split at h
    · cases h
    · rename_i h2
      clear h
      by_cases ha : d < 48
      · clear h1 h2
        go_enter Try.func85, Try.ntmps85
        go_wp2_with fail
        go_ret2
        exact ⟨rfl, rfl⟩
      · by_cases hb : d < 97
        · have hc2 : 57 < d := by omega
          clear h1 h2
          go_enter Try.func85, Try.ntmps85
          go_wp2_with fail
          go_ret2
          exact ⟨rfl, rfl⟩
        · have hc2 : 102 < d := by omega
          clear h1 h2
          go_enter Try.func85, Try.ntmps85
          go_wp2_with fail
          go_ret2
          exact ⟨rfl, rfl⟩
theorem hexd_get : ∀ j : Fin 16, (⟨#[48, 49, 50, 51, 52, 53, 54, 55, 56, 57, 97, 98, 99, 100, 101, 102]⟩ : ByteArray)[j.val]'(j.isLt) = Oct.dig j.val := by decide
theorem run_hexd (kd : IntKind) (z : Int) (k : Nat) (hz : z = (k : Int)) (hk : k < 16) (w : World) :
    (Instr.index 9 (.string ⟨#[48, 49, 50, 51, 52, 53, 54, 55, 56, 57, 97, 98, 99, 100, 101, 102]⟩) (.int kd z)).run Try.prog w = .ok (.int .u8 ((Oct.dig k).toNat : Int)) w := by
  subst hz
  rw [run_index_string w _ _ kd _ Try.underlying9, dif_pos ⟨by omega, by exact Int.ofNat_lt.2 hk⟩]
  have e : ((k : Int)).toNat = k := by omega
  simp only [e]
  rw [hexd_get ⟨k, hk⟩]
set_option maxHeartbeats 1000000 in
theorem Hex_any {A : Option Addr} {n c B : Nat} {l : List UInt8} (w : World) (hb : RB w B A n c l) (hn : n ≤ 100000) (hB : B ≤ w.heap.size) :
    Calls Try.prog 24 #[.slice A n c] w fun e w' => e = .returned (.string ⟨(Oct.hexS l).toArray⟩) ∧ Below w.heap.size w w' := by
  have hl := hb.len
  go_enter Try.func24, Try.ntmps24
  go_wp2_with (at_make; refine wpList_mkb etb rfl (.const (.int .i64 0)) (.tmp 8) rfl .i64 .i64 0 (2 * n) rfl rfl (by omega) (by omega) w.heap.size (Nat.le_refl _) ?_; intro w3 h3 hb3 hz3)
  go_loopw [3, 12] (fun v i wr => ∃ (j : Nat) (A1 : Option Addr) (c1 : Nat), j ≤ n ∧ i = .int .i64 j ∧ v = .slice A1 (2 * j) c1 ∧ OB wr w.heap.size A1 (2 * j) c1 (Oct.hexS (l.take j)) ∧ Below w.heap.size w wr) (fun _ i _ => n - (intOf i).toNat)
  case atStart => exact ⟨0, _, _, Nat.zero_le _, rfl, rfl, h3, hb3⟩
  case round =>
    obtain ⟨j, A1, c1, hj, rfl, rfl, hown, hbel⟩ := hrel
    have hbr := hb.below (hbel.mono hB)
    by_cases hlt : j < n
    · obtain ⟨g, o, rfl, hgB, hcl⟩ := hbr.at_ (by omega)
      have hcj := hcl j hlt
      have hx2 : (l.getD j 0).toNat < 256 := byte_lt _
      have hsn : Oct.hexS (l.take (j + 1)) = Oct.hexS (l.take j) ++ [Oct.dig ((l.getD j 0).toNat / 16), Oct.dig ((l.getD j 0).toNat % 16)] := by
        rw [← Oct.hexS_snoc]
        congr 1
        have : j < l.length := by omega
        rw [List.take_succ_eq_append_getElem this]
        simp [List.getD, this]
      have HSN := Lib.hid hsn
      clear hsn hcl
      generalize l.getD j 0 = x at *
      have hi1 := fun w => run_hexd .u8 ((x.toNat : Int) / 16) (x.toNat / 16) (by omega) (by omega) w
      have hi2 := fun w => run_hexd .u8 ((x.toNat : Int) % 16) (x.toNat % 16) (by omega) (by omega) w
      go_wp2_with fail
      refine region_since (w0 := w) (by kernel_rfl) ?_
      refine phase_later (by kernel_rfl) 3 (hbel.drew) [0, 1, 4, 2, 5, 3, 6] rfl (by kernel_rfl) ?_
      simp only [picks, nth]
      repeat (go_big_quiet_step (fail))
      refine wpQuiet_nil ?_
      refine phase_op 7 2 rfl (by kernel_rfl) (by decide) ?_
      simp only [nth]
      go_wp2_with fail
      have h4 := (RB.lit wr [.int .u8 ((Oct.dig (x.toNat / 16)).toNat : Int), .int .u8 ((Oct.dig (x.toNat % 16)).toNat : Int)] [Oct.dig (x.toNat / 16), Oct.dig (x.toNat % 16)] rfl (n := 2) rfl (by omega)).drew
      have o4 := (hown.alloc (.cells #[.int .u8 ((Oct.dig (x.toNat / 16)).toNat : Int), .int .u8 ((Oct.dig (x.toNat % 16)).toNat : Int)] 5)).below (below_drew _)
      have b4 := (hbel.alloc hbel.size (.cells #[.int .u8 ((Oct.dig (x.toNat / 16)).toNat : Int), .int .u8 ((Oct.dig (x.toNat % 16)).toNat : Int)] 5)).drew
      refine behind_since b4 ?_
      refine phase_op 8 1 rfl (by kernel_rfl) (by decide) ?_
      simp only [nth]
      go_wp2_with (at_builtin; refine wpList_appb etb rfl (.tmp 16) (.tmp 23) rfl rfl rfl w.heap.size o4 h4 (by omega) b4.size ?_; intro A2 c2 w5 h5 b5 _ _)
      have d5 : Below w.heap.size w w5 := b4.trans b5
      refine behind_since d5 ?_
      refine phase_later (by kernel_rfl) 0 d5 [9] rfl (by kernel_rfl) ?_
      simp only [picks, nth]
      repeat (go_big_quiet_step (fail))
      refine wpQuiet_nil ?_
      refine phase_end (by kernel_rfl) ?_
      go_wp2_with fail
      go_roundw
      case rel => exact ⟨j + 1, A2, c2, by omega, by go_num, rfl, by rw [HSN.out]; exact h5, d5⟩
      case measure => simp [intOf] <;> omega
    · obtain rfl : j = n := by omega
      have e1 := convb hown.rb
      rw [show l.take j = l by rw [List.take_of_length_le (by omega)]] at e1
      go_wp2_with fail
      go_ret
      exact ⟨rfl, hbel⟩
end Go.Proofs.Ytmolmpgampmolaa
/-
  Not of this seat.
  Conditions: none.
-/
