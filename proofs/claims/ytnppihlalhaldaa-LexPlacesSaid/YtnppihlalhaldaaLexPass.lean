/-
  Walks: pass, begins, quoted of package lex.
  Conditions: none.
-/
import Derived.Test.YtnppihlalhaldaaLexHead
namespace Go.Proofs.Ytnppihlalhaldaa
set_option linter.unusedVariables false
set_option linter.unusedSimpArgs false
open Go.RowKit
def strLen : Value → Nat
  | .string b => b.size
  | _ => 0
theorem drop_tw (p : UInt8 → Bool) : ∀ l : List UInt8, l.drop (l.takeWhile p).length = l.dropWhile p
  | [] => rfl
  | c :: r => by
    rw [List.takeWhile_cons, List.dropWhile_cons]
    split
    · rw [List.length_cons, List.drop_succ_cons, drop_tw p r]
    · rfl
theorem tw_len (p : UInt8 → Bool) (l : List UInt8) : (l.takeWhile p).length ≤ l.length := (List.takeWhile_prefix p).length_le
theorem dw_len (p : UInt8 → Bool) (l : List UInt8) : (l.dropWhile p).length ≤ l.length := (List.dropWhile_suffix p).length_le
theorem dw_head {p : UInt8 → Bool} : ∀ {l : List UInt8} {c : UInt8} {r : List UInt8}, l.dropWhile p = c :: r → p c = false
  | [], _, _, h => by cases h
  | a :: l, c, r, h => by
    rw [List.dropWhile_cons] at h
    split at h
    · exact dw_head h
    · rename_i hp
      cases h
      simpa using hp
theorem byte_ne {c d : UInt8} {k : Int} (h : c ≠ d) (hk : (d.toNat : Int) = k) : ((c.toNat : Int) == k) = false := by
  rw [beq_eq_false_iff_ne]
  intro e
  exact h (UInt8.toNat_inj.1 (by omega))
theorem byte_neq {c d : UInt8} {k : Int} (h : c ≠ d) (hk : (d.toNat : Int) = k) : ((c.toNat : Int) != k) = true := by
  rw [bne_iff_ne]
  intro e
  exact h (UInt8.toNat_inj.1 (by omega))
set_option maxRecDepth 100000 in
set_option maxHeartbeats 2000000 in
theorem pass_any (s : List UInt8) (w : World) (hs : s.length ≤ 1000000) :
    Calls Try.prog 15 #[.string (T s)] w fun e w' => e = .returned (.string (T (Lx.skip false s))) ∧ Below w.heap.size w w' := by
  go_enter Try.func15, Try.ntmps15
  go_wp2_with fail
  go_loopw [0] (fun v wr => ∃ l : List UInt8, v = .string (T l) ∧ l.length ≤ s.length ∧ Hid (Lx.skip false l = Lx.skip false s) ∧ Below w.heap.size w wr) (fun v _ => strLen v)
  case atStart => exact ⟨s, rfl, Nat.le_refl _, Lib.hid rfl, Below.refl _ _⟩
  case round =>
    obtain ⟨l, rfl, hl, hsk, hbel⟩ := hrel
    have hT := T_size l
    have H1 := Lib.hid (head_blank l wr (by omega))
    have hb := Lx.skip_blanks l
    have hcut := fun w => run_T_rest l .i64 ((l.takeWhile Lx.blank).length : Int) (l.takeWhile Lx.blank).length rfl (tw_len _ _) w
    rw [drop_tw] at hcut
    have hdl := dw_len Lx.blank l
    have hT2 := T_size (l.takeWhile Lx.blank)
    generalize hdw : l.dropWhile Lx.blank = l1 at *
    generalize hw1 : l.takeWhile Lx.blank = w1 at *
    have HB := Lib.hid hb; clear hb
    have HD := Lib.hid hdw; clear hdw hw1
    cases l1 with
    | nil =>
      have hsn : Lx.skip false ([] : List UInt8) = [] := rfl
      have HR := Lib.hid (hsk.out.symm.trans HB.out)
      have h0 : T [] = (⟨#[]⟩ : ByteArray) := rfl
      clear hsn
      go_wp2_with fail
      refine (H1.out).mono ?_
      rintro e wa ⟨rfl, b1⟩
      have d1 := below_step hbel b1 (Nat.le_refl _)
      go_wp2_with fail
      go_ret
      exact ⟨by rw [HR.out]; rfl, d1⟩
    | cons c r =>
      have hbc := dw_head HD.out
      have hat := fun w => run_T_at (c :: r) .i64 0 0 rfl (by simp) w
      rw [show (c :: r).getD 0 0 = c from rfl] at hat
      have htl := T_toList (c :: r)
      have hne : ((c :: r : List UInt8) == []) = false := rfl
      by_cases hc : c = 33
      · subst hc
        have H2 := Lib.hid (fun w => head_inline (33 :: r) w (by omega))
        have h2 := Lx.skip_line (33 :: r)
        have hlen : ((33 :: r).dropWhile Lx.line).length < (33 :: r : List UInt8).length := by
          rw [List.dropWhile_cons, if_pos (by decide)]
          have := dw_len Lx.line r
          simp only [List.length_cons]
          omega
        have hcut2 := fun w => run_T_rest (33 :: r) .i64 (((33 :: r).takeWhile Lx.line).length : Int) ((33 :: r).takeWhile Lx.line).length rfl (tw_len _ _) w
        rw [drop_tw] at hcut2
        have hT3 := T_size ((33 :: r).takeWhile Lx.line)
        have hT4 := T_size ((33 :: r).dropWhile Lx.line)
        have HR : Hid (Lx.skip false ((33 :: r).dropWhile Lx.line) = Lx.skip false s) := Lib.hid (by
          rw [← h2, ← Lx.skip_bang, ← HB.out]
          exact hsk.out)
        clear h2 hbc
        generalize (33 :: r : List UInt8).dropWhile Lx.line = l2 at *
        generalize (33 :: r : List UInt8).takeWhile Lx.line = w2 at *
        generalize (33 :: r : List UInt8) = l1 at *
        go_wp2_with fail
        refine (H1.out).mono ?_
        rintro e wa ⟨rfl, b1⟩
        have d1 := below_step hbel b1 (Nat.le_refl _)
        go_wp2_with fail
        refine (H2.out _).mono ?_
        rintro e wb ⟨rfl, b2⟩
        have d2 := below_step d1 b2 (Nat.le_refl _)
        go_wp2_with fail
        go_roundw
        case rel => exact ⟨l2, rfl, by omega, HR, d2⟩
        case measure => simp [strLen] <;> omega
      · have hc1 := byte_neq (k := 33) hc rfl
        have hst := Lx.skip_stop (r := r) hbc hc
        have HR := Lib.hid (hst.symm.trans (HB.out.symm.trans hsk.out))
        clear hst hbc hc
        generalize (c :: r : List UInt8) = l1 at *
        go_wp2_with fail
        refine (H1.out).mono ?_
        rintro e wa ⟨rfl, b1⟩
        have d1 := below_step hbel b1 (Nat.le_refl _)
        go_wp2_with fail
        go_ret
        exact ⟨by rw [← HR.out]; rfl, d1⟩
/-- A text begins with one sign, and one of a kind behind it. -/
theorem begins_any (g : Nat) (r : Nat → Bool) (eg : ∀ args w, (callFunc g args).run Try.prog w = .ok (.enter g args) w)
    (C : ∀ (x : Nat) (w : World), x ≤ 1114111 → Calls Try.prog g #[.int .i32 (x : Int)] w fun e w' => e = .returned (.bool (r x)) ∧ w' = w) (s t : List UInt8) (w : World) (hs : s.length ≤ 1000000) (ht : t.length ≤ 10) :
    Calls Try.prog 24 #[.string (T s), .string (T t), .func (.func g) #[] #[]] w fun e w' => e = .returned (.bool (s.take t.length == t && Lx.fst (fun c => r c.toNat) (s.drop t.length))) ∧ w' = w := by
  have hT := T_size s
  have hT2 := T_size t
  have C' := Lib.hid C; clear C
  by_cases hlt : t.length < s.length
  · have hcut := fun w => run_T_head s .i64 t.length t.length rfl (by omega) w
    have hat := fun w => run_T_at s .i64 t.length t.length rfl hlt w
    have hl1 := T_toList (s.take t.length)
    have hl2 := T_toList t
    have hd : s.drop t.length = s.getD t.length 0 :: s.drop (t.length + 1) := by
      rw [List.drop_eq_getElem_cons hlt, List.getD_eq_getElem?_getD, List.getElem?_eq_getElem hlt]
      rfl
    rw [hd]
    have hf : Lx.fst (fun c => r c.toNat) (s.getD t.length 0 :: s.drop (t.length + 1)) = r (s.getD t.length 0).toNat := rfl
    rw [hf]
    have hb := byte_lt (s.getD t.length 0)
    generalize hx : (s.take t.length == t) = x at *
    have CR := C'.out (s.getD t.length 0).toNat w (by omega)
    generalize s.getD t.length 0 = c at *
    generalize r c.toNat = y at *
    replace CR := Lib.hid CR
    have HD := Lib.hid hd; clear hd hf
    cases x with
    | true =>
      go_enter Try.func24, Try.ntmps24
      go_wp2_with fail
      refine (CR.out).mono ?_
      rintro e _ ⟨rfl, rfl⟩
      go_wp2_with fail
      go_ret
      exact ⟨rfl, rfl⟩
    | false =>
      go_enter Try.func24, Try.ntmps24
      go_wp2_with fail
      go_ret
      exact ⟨rfl, rfl⟩
  · have hz : s.drop t.length = [] := List.drop_eq_nil_of_le (by omega)
    rw [hz]
    go_enter Try.func24, Try.ntmps24
    go_wp2_with fail
    go_ret
    exact ⟨ret_bool (by simp [Lx.fst]), rfl⟩
end Go.Proofs.Ytnppihlalhaldaa
