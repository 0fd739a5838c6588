/-
  Walks: Text and Same of package lex and of its reference.
  Conditions: none.
-/
import Derived.Test.YtnppihlalhaldaaLexMem
import Derived.Deep.QuietTactic
import Derived.BigQuiet
namespace Go.Proofs.Ytnppihlalhaldaa
set_option linter.unusedVariables false
set_option linter.unusedSimpArgs false
open Go.RowKit
namespace Lx
theorem text_snoc (t : Tk) : ∀ l : List Tk, textS (l ++ [t]) = if l = [] then t.text else textS l ++ 32 :: t.text
  | [] => rfl
  | [a] => rfl
  | a :: b :: r => by
    have ih := text_snoc t (b :: r)
    rw [if_neg (by simp)] at ih
    rw [if_neg (by simp)]
    show a.text ++ 32 :: textS (b :: r ++ [t]) = (a.text ++ 32 :: textS (b :: r)) ++ 32 :: t.text
    rw [ih]
    simp
theorem text_mono (l : List Tk) : ∀ m : List Tk, (textS l).length ≤ (textS (l ++ m)).length := by
  intro m
  induction m generalizing l with
  | nil => simp
  | cons t m ih =>
    have h1 := ih (l ++ [t])
    rw [List.append_assoc, List.singleton_append] at h1
    refine Nat.le_trans ?_ h1
    rw [text_snoc]
    split
    · rename_i h; subst h; simp [textS]
    · simp
theorem text_step {ts : List Tk} {k : Nat} (hk : k < ts.length) : textS (ts.take (k + 1)) = (if k = 0 then (ts.getD k tkz).text else textS (ts.take k) ++ 32 :: (ts.getD k tkz).text) ∧
    (textS (ts.take (k + 1))).length ≤ (textS ts).length := by
  have e : ts.take (k + 1) = ts.take k ++ [ts.getD k tkz] := by
    rw [List.take_succ_eq_append_getElem hk]
    simp [List.getD, hk]
  refine ⟨?_, ?_⟩
  · rw [e, text_snoc]
    by_cases h0 : k = 0
    · subst h0; rfl
    · rw [if_neg (by
        intro h
        have h3 : (ts.take k).length = 0 := by rw [h]; rfl
        rw [List.length_take] at h3
        omega), if_neg h0]
  · have := text_mono (ts.take (k + 1)) (ts.drop (k + 1))
    rwa [List.take_append_drop] at this
end Lx
set_option maxRecDepth 100000 in
set_option maxHeartbeats 2000000 in
theorem Text_any {A : Option Addr} {n c B : Nat} {ts : List Lx.Tk} (w : World) (h : RTf w B A n c ts) (hb : (Lx.textS ts).length ≤ 1000000) (hn : n ≤ 1000000) (hB : B ≤ w.heap.size) :
    Calls Try.prog 13 #[.slice A n c] w fun e w' => e = .returned (.string (T (Lx.textS ts))) ∧ Below w.heap.size w w' := by
  have hl := h.len
  go_enter Try.func13, Try.ntmps13
  go_wp2_with fail
  go_loopw [3, 8] (fun v u wr => ∃ k : Nat, k ≤ n ∧ u = .int .i64 k ∧ v = .string (T (Lx.textS (ts.take k))) ∧ Below w.heap.size w wr) (fun _ u _ => n - (intOf u).toNat)
  case atStart => exact ⟨0, by omega, rfl, rfl, Below.refl _ _⟩
  case round =>
    obtain ⟨k, hk, rfl, rfl, bb⟩ := hrel
    by_cases hlt : k < n
    · obtain ⟨b, o, p, rfl, hbB, q0, q1, q2, q3⟩ := (h.below (bb.mono hB)).at_ hlt
      obtain ⟨s1, s2⟩ := Lx.text_step (ts := ts) (k := k) (by omega)
      generalize ts.getD k tkz = t at *
      obtain ⟨kd, tx, m, pl⟩ := t
      dsimp only at *
      have b2 := bb.alloc bb.size (.cells #[.int .i64 kd, .string (T tx), .int .i64 m, .int .i64 p] 29)
      generalize hcur : Lx.textS (ts.take k) = cur at *
      generalize hnew : Lx.textS (ts.take (k + 1)) = new at *
      by_cases h0 : k = 0
      · subst h0
        rw [if_pos rfl] at s1
        subst s1
        have hc0 : cur = [] := by rw [← hcur]; rfl
        subst hc0
        simp only [Nat.zero_mul, Nat.add_zero] at q0 q1 q2 q3
        have hadd := fun w => run_T_add [] new (by simp; omega) w
        rw [List.nil_append] at hadd
        have HN := Lib.hid hnew
        clear hcur hnew
        go_wp2_with fail
        go_roundw
        case rel => exact ⟨1, by omega, by go_num, by rw [show (0 : Nat) + 1 = 1 from rfl] at HN; rw [HN.out], b2⟩
        case measure => simp [intOf] <;> omega
      · rw [if_neg h0] at s1
        rw [s1, List.length_append, List.length_cons] at s2
        have hadd := fun w => run_T_add cur [32] (by simp; omega) w
        have hadd2 := fun w => run_T_add (cur ++ [32]) tx (by simp; omega) w
        have HN := Lib.hid (hnew.trans s1)
        have h32 : T [32] = (⟨#[32]⟩ : ByteArray) := rfl
        rw [h32] at hadd
        clear hcur hnew s1
        go_wp2_with fail
        go_roundw
        case rel => exact ⟨k + 1, by omega, by go_num, by rw [HN.out], b2⟩
        case measure => simp [intOf] <;> omega
    · obtain rfl : k = n := by omega
      have ht : ts.take k = ts := List.take_of_length_le (by omega)
      rw [ht]
      clear ht
      go_wp2_with fail
      go_ret
      exact ⟨rfl, bb⟩
set_option maxRecDepth 100000 in
set_option maxHeartbeats 2000000 in
theorem RText_any {A : Option Addr} {n c B : Nat} {ts : List Lx.Tk} (w : World) (h : RTf w B A n c ts) (hb : (Lx.textS ts).length ≤ 1000000) (hn : n ≤ 1000000) :
    Calls Try.prog 14 #[.slice A n c] w fun e w' => e = .returned (.string (T (Lx.textS ts))) ∧ w' = w := by
  have hl := h.len
  go_enter Try.func14, Try.ntmps14
  go_wp2_with fail
  go_loop [3, 4] (fun v u => ∃ k : Nat, k ≤ n ∧ u = .int .i64 k ∧ v = .string (T (Lx.textS (ts.take k)))) (fun _ u => n - (intOf u).toNat)
  case atStart => exact ⟨0, by omega, rfl, rfl⟩
  case round =>
    obtain ⟨k, hk, rfl, rfl⟩ := hrel
    by_cases hlt : k < n
    · obtain ⟨b, o, p, rfl, hbB, q0, q1, q2, q3⟩ := h.at_ hlt
      obtain ⟨s1, s2⟩ := Lx.text_step (ts := ts) (k := k) (by omega)
      generalize ts.getD k tkz = t at *
      obtain ⟨kd, tx, m, pl⟩ := t
      dsimp only at *
      generalize hcur : Lx.textS (ts.take k) = cur at *
      generalize hnew : Lx.textS (ts.take (k + 1)) = new at *
      by_cases h0 : k = 0
      · subst h0
        rw [if_pos rfl] at s1
        subst s1
        have hc0 : cur = [] := by rw [← hcur]; rfl
        subst hc0
        simp only [Nat.zero_mul, Nat.add_zero] at q0 q1 q2 q3
        have hadd := fun w => run_T_add [] new (by simp; omega) w
        rw [List.nil_append] at hadd
        have HN := Lib.hid hnew
        clear hcur hnew
        go_wp2_with fail
        go_round
        case rel => exact ⟨1, by omega, by go_num, by rw [show (0 : Nat) + 1 = 1 from rfl] at HN; rw [HN.out]⟩
        case measure => simp [intOf] <;> omega
      · rw [if_neg h0] at s1
        rw [s1, List.length_append, List.length_cons] at s2
        have hadd := fun w => run_T_add cur [32] (by simp; omega) w
        have hadd2 := fun w => run_T_add (cur ++ [32]) tx (by simp; omega) w
        have HN := Lib.hid (hnew.trans s1)
        have h32 : T [32] = (⟨#[32]⟩ : ByteArray) := rfl
        rw [h32] at hadd
        clear hcur hnew s1
        go_wp2_with fail
        go_round
        case rel => exact ⟨k + 1, by omega, by go_num, by rw [HN.out]⟩
        case measure => simp [intOf] <;> omega
    · obtain rfl : k = n := by omega
      have ht : ts.take k = ts := List.take_of_length_le (by omega)
      rw [ht]
      clear ht
      go_wp2_with fail
      go_ret
      exact ⟨rfl, rfl⟩
set_option maxRecDepth 100000 in
set_option maxHeartbeats 2000000 in
theorem LSame_any (a b : Lx.Tk) (q q' : Int) (w : World) : Calls Try.prog 12 #[tkV a.kind a.text a.n q, tkV b.kind b.text b.n q'] w fun e w' => e = .returned (.bool (Lx.like a b)) ∧ Below w.heap.size w w' := by
  obtain ⟨k, s, n, p⟩ := a
  obtain ⟨k', s', n', p'⟩ := b
  unfold tkV
  dsimp only
  have h1 := T_toList s
  have h2 := T_toList s'
  have hv : Lx.like ⟨k, s, n, p⟩ ⟨k', s', n', p'⟩ = ((k == k') && (s == s') && (n == n')) := rfl
  rw [hv]
  clear hv
  generalize hk : (k == k') = x at *
  generalize hs : (s == s') = y at *
  generalize hn : (n == n') = z at *
  cases x <;> cases y <;> cases z
  all_goals
    go_enter Try.func12, Try.ntmps12
    go_wp2_with fail
    go_ret
    exact ⟨rfl, alloc_two _ _ _⟩
theorem same_step (pl : Bool) (t u : Lx.Tk) (l m : List Lx.Tk) : Lx.sameL pl (t :: l) (u :: m) = (Lx.like t u && (!pl || t.pl == u.pl) && Lx.sameL pl l m) := rfl
theorem same_len {pl : Bool} : ∀ {l m : List Lx.Tk}, l.length ≠ m.length → Lx.sameL pl l m = false
  | [], [], h => absurd rfl h
  | [], _ :: _, _ => rfl
  | _ :: _, [], _ => rfl
  | a :: l, b :: m, h => by
    rw [same_step, same_len (l := l) (m := m) (by simpa using h), Bool.and_false]
theorem drop_getD {ts : List Lx.Tk} {k : Nat} (h : k < ts.length) : ts.drop k = ts.getD k tkz :: ts.drop (k + 1) := by
  rw [List.drop_eq_getElem_cons h, List.getD_eq_getElem?_getD, List.getElem?_eq_getElem h]
  rfl
theorem drew_two (w : World) (d e : Nat) : ∃ k, (w.drewN d).drewN e = w.drewN k := ⟨d + e, by simp [World.drewN, Nat.add_assoc]⟩
def SamePost (b : Bool) (w : World) (e : Ending) (w' : World) : Prop := e = .returned (.bool b) ∧ ∃ d, w' = w.drewN d
theorem same_no {b : Bool} {w w' : World} (h : b = false) (hw : ∃ d, w' = w.drewN d) : SamePost b w (.returned (.bool false)) w' := by subst h; exact ⟨rfl, hw⟩
theorem same_yes {b : Bool} {w w' : World} (h : b = true) (hw : ∃ d, w' = w.drewN d) : SamePost b w (.returned (.bool true)) w' := by subst h; exact ⟨rfl, hw⟩
theorem SamePost.below {b : Bool} {w w' : World} {e : Ending} (h : SamePost b w e w') : e = .returned (.bool b) ∧ Below w.heap.size w w' := by
  obtain ⟨h1, d, rfl⟩ := h
  exact ⟨h1, below_drewN (Below.refl _ _) _⟩
set_option maxRecDepth 100000 in
set_option maxHeartbeats 4000000 in
theorem RSame_any {A : Option Addr} {n c B : Nat} {ts : List Lx.Tk} {A1 : Option Addr} {n1 c1 B1 : Nat} {us : List Lx.Tk} (pl : Bool) (w : World) (h : RTk w B A n c ts) (h1 : RTk w B1 A1 n1 c1 us) :
    Calls Try.prog 11 #[.slice A n c, .slice A1 n1 c1, .bool pl] w (SamePost (Lx.sameL pl ts us) w) := by
  have hl := h.len
  have hl1 := h1.len
  have hn := h.lt
  have hn1 := h1.lt
  by_cases hne : n = n1
  · subst hne
    have HS : Hid (Lx.sameL pl ts us = Lx.sameL pl (ts.drop 0) (us.drop 0)) := Lib.hid (by rw [List.drop_zero, List.drop_zero])
    generalize hres : Lx.sameL pl ts us = res at *
    clear hres
    go_enter Try.func11, Try.ntmps11
    go_wp2_with fail
    go_loopw [7] (fun i wr => ∃ k : Nat, k ≤ n ∧ i = .int .i64 k ∧ (∃ d, wr = w.drewN d) ∧ Hid (res = Lx.sameL pl (ts.drop k) (us.drop k))) (fun i _ => n - (intOf i).toNat)
    case atStart => exact ⟨0, by omega, rfl, ⟨0, rfl⟩, HS⟩
    case round =>
      obtain ⟨k, hk, rfl, ⟨d, rfl⟩, HR⟩ := hrel
      clear HS
      by_cases hlt : k < n
      · obtain ⟨b, o, rfl, hbB, q0, q1, q2, q3⟩ := h.at_ hlt
        obtain ⟨b', o', rfl, hbB', q0', q1', q2', q3'⟩ := h1.at_ hlt
        have hst := HR.out
        rw [drop_getD (ts := ts) (k := k) (by omega), drop_getD (ts := us) (k := k) (by omega), same_step] at hst
        generalize ts.getD k tkz = t at *
        generalize us.getD k tkz = u at *
        obtain ⟨kd, tx, m, p⟩ := t
        obtain ⟨kd', tx', m', p'⟩ := u
        have hv : Lx.like ⟨kd, tx, m, p⟩ ⟨kd', tx', m', p'⟩ = ((kd == kd') && (tx == tx') && (m == m')) := rfl
        rw [hv] at hst
        dsimp only at *
        clear hv HR
        have e1 := T_toList tx
        have e2 := T_toList tx'
        have i0 : (0 : Int) ≤ (k : Int) := by omega
        have i1 : (k : Int) < (n : Int) := by omega
        have hkk : (kd != kd') = !(kd == kd') := rfl
        have htt : (tx != tx') = !(tx == tx') := rfl
        have hmm : (m != m') = !(m == m') := rfl
        have hpp : ((p : Int) != (p' : Int)) = !(p == p') := by
          show (!((p : Int) == (p' : Int))) = _
          congr 1
          rw [Bool.eq_iff_iff, beq_iff_eq, beq_iff_eq]
          omega
        generalize hx1 : (kd == kd') = x1 at *
        generalize hx2 : (tx == tx') = x2 at *
        generalize hx3 : (m == m') = x3 at *
        generalize hx4 : (p == p') = x4 at *
        clear hx4
        generalize hrest : Lx.sameL pl (ts.drop (k + 1)) (us.drop (k + 1)) = rest at *
        have HRE := Lib.hid hrest
        have HREST : Hid (res = rest) → Hid (res = Lx.sameL pl (ts.drop (k + 1)) (us.drop (k + 1))) := fun h => Lib.hid (h.out.trans HRE.out.symm)
        clear hrest
        cases x1 with
        | false =>
          have HE : Hid (res = false) := Lib.hid (by rw [hst]; rfl)
          simp only [Bool.not_false] at hkk
          clear hst htt hmm hpp hx1 hx2 hx3
          go_wp2_with fail
          go_quiet (fail)
          go_wp2_with fail
          go_ret
          exact same_no HE.out (drew_two _ _ _)
        | true =>
        cases x2 with
        | false =>
          have HE : Hid (res = false) := Lib.hid (by rw [hst]; rfl)
          simp only [Bool.not_false, Bool.not_true] at hkk htt
          clear hst hmm hpp hx1 hx3
          go_wp2_with fail
          go_quiet (fail)
          go_wp2_with fail
          go_ret
          exact same_no HE.out (drew_two _ _ _)
        | true =>
        cases x3 with
        | false =>
          have HE : Hid (res = false) := Lib.hid (by rw [hst]; rfl)
          simp only [Bool.not_false, Bool.not_true] at hkk htt hmm
          clear hst hpp hx1
          go_wp2_with fail
          go_quiet (fail)
          go_wp2_with fail
          go_ret
          exact same_no HE.out (drew_two _ _ _)
        | true =>
        simp only [Bool.not_true] at hkk htt hmm
        cases pl with
        | false =>
          have HE : Hid (res = rest) := Lib.hid (by rw [hst]; rfl)
          clear hst hpp hx1
          go_wp2_with fail
          go_quiet (fail)
          go_wp2_with fail
          go_roundw
          case rel => exact ⟨k + 1, by omega, by go_num, ⟨_, rfl⟩, HREST HE⟩
          case measure => simp [intOf] <;> omega
        | true =>
        cases x4 with
        | false =>
          have HE : Hid (res = false) := Lib.hid (by rw [hst]; rfl)
          simp only [Bool.not_false] at hpp
          clear hst hx1
          go_wp2_with fail
          go_quiet (fail)
          go_wp2_with fail
          go_ret
          exact same_no HE.out (drew_two _ _ _)
        | true =>
          have HE : Hid (res = rest) := Lib.hid (by rw [hst]; rfl)
          simp only [Bool.not_true] at hpp
          clear hst hx1
          go_wp2_with fail
          go_quiet (fail)
          go_wp2_with fail
          go_roundw
          case rel => exact ⟨k + 1, by omega, by go_num, ⟨_, rfl⟩, HREST HE⟩
          case measure => simp [intOf] <;> omega
      · obtain rfl : k = n := by omega
        have HE : Hid (res = true) := Lib.hid (by rw [HR.out, List.drop_of_length_le (by omega), List.drop_of_length_le (by omega)]; rfl)
        clear HR
        go_wp2_with fail
        go_ret
        exact same_yes HE.out ⟨_, rfl⟩
  · have hv := same_len (pl := pl) (l := ts) (m := us) (by omega)
    have HV := Lib.hid hv
    clear hv
    have hd : ((n : Int) != (n1 : Int)) = true := by simp; omega
    clear hl hl1
    go_enter Try.func11, Try.ntmps11
    go_wp2_with fail
    go_ret
    exact same_no HV.out ⟨0, rfl⟩
set_option maxRecDepth 100000 in
set_option maxHeartbeats 4000000 in
theorem RSameF_any {A : Option Addr} {n c B : Nat} {ts : List Lx.Tk} {A1 : Option Addr} {n1 c1 B1 : Nat} {us : List Lx.Tk} (w : World) (h : RTf w B A n c ts) (h1 : RTf w B1 A1 n1 c1 us) :
    Calls Try.prog 11 #[.slice A n c, .slice A1 n1 c1, .bool false] w (SamePost (Lx.sameL false ts us) w) := by
  have hl := h.len
  have hl1 := h1.len
  have hn := h.lt
  have hn1 := h1.lt
  by_cases hne : n = n1
  · subst hne
    have HS : Hid (Lx.sameL false ts us = Lx.sameL false (ts.drop 0) (us.drop 0)) := Lib.hid (by rw [List.drop_zero, List.drop_zero])
    generalize hres : Lx.sameL false ts us = res at *
    clear hres
    go_enter Try.func11, Try.ntmps11
    go_wp2_with fail
    go_loopw [7] (fun i wr => ∃ k : Nat, k ≤ n ∧ i = .int .i64 k ∧ (∃ d, wr = w.drewN d) ∧ Hid (res = Lx.sameL false (ts.drop k) (us.drop k))) (fun i _ => n - (intOf i).toNat)
    case atStart => exact ⟨0, by omega, rfl, ⟨0, rfl⟩, HS⟩
    case round =>
      obtain ⟨k, hk, rfl, ⟨d, rfl⟩, HR⟩ := hrel
      clear HS
      by_cases hlt : k < n
      · obtain ⟨b, o, pp, rfl, hbB, q0, q1, q2, q3⟩ := h.at_ hlt
        obtain ⟨b', o', pp', rfl, hbB', q0', q1', q2', q3'⟩ := h1.at_ hlt
        have hst := HR.out
        rw [drop_getD (ts := ts) (k := k) (by omega), drop_getD (ts := us) (k := k) (by omega), same_step] at hst
        generalize ts.getD k tkz = t at *
        generalize us.getD k tkz = u at *
        obtain ⟨kd, tx, m, p⟩ := t
        obtain ⟨kd', tx', m', p'⟩ := u
        have hv : Lx.like ⟨kd, tx, m, p⟩ ⟨kd', tx', m', p'⟩ = ((kd == kd') && (tx == tx') && (m == m')) := rfl
        rw [hv] at hst
        dsimp only at *
        clear hv HR
        have e1 := T_toList tx
        have e2 := T_toList tx'
        have i0 : (0 : Int) ≤ (k : Int) := by omega
        have i1 : (k : Int) < (n : Int) := by omega
        have hkk : (kd != kd') = !(kd == kd') := rfl
        have htt : (tx != tx') = !(tx == tx') := rfl
        have hmm : (m != m') = !(m == m') := rfl
        generalize hx1 : (kd == kd') = x1 at *
        generalize hx2 : (tx == tx') = x2 at *
        generalize hx3 : (m == m') = x3 at *
        generalize hrest : Lx.sameL false (ts.drop (k + 1)) (us.drop (k + 1)) = rest at *
        have HRE := Lib.hid hrest
        have HREST : Hid (res = rest) → Hid (res = Lx.sameL false (ts.drop (k + 1)) (us.drop (k + 1))) := fun h => Lib.hid (h.out.trans HRE.out.symm)
        clear hrest
        cases x1 with
        | false =>
          have HE : Hid (res = false) := Lib.hid (by rw [hst]; rfl)
          simp only [Bool.not_false] at hkk
          clear hst htt hmm hx1 hx2 hx3
          go_wp2_with fail
          go_quiet (fail)
          go_wp2_with fail
          go_ret
          exact same_no HE.out (drew_two _ _ _)
        | true =>
        cases x2 with
        | false =>
          have HE : Hid (res = false) := Lib.hid (by rw [hst]; rfl)
          simp only [Bool.not_false, Bool.not_true] at hkk htt
          clear hst hmm hx1 hx3
          go_wp2_with fail
          go_quiet (fail)
          go_wp2_with fail
          go_ret
          exact same_no HE.out (drew_two _ _ _)
        | true =>
        cases x3 with
        | false =>
          have HE : Hid (res = false) := Lib.hid (by rw [hst]; rfl)
          simp only [Bool.not_false, Bool.not_true] at hkk htt hmm
          clear hst hx1
          go_wp2_with fail
          go_quiet (fail)
          go_wp2_with fail
          go_ret
          exact same_no HE.out (drew_two _ _ _)
        | true =>
        simp only [Bool.not_true] at hkk htt hmm
        have HE : Hid (res = rest) := Lib.hid (by rw [hst]; rfl)
        clear hst hx1
        go_wp2_with fail
        go_quiet (fail)
        go_wp2_with fail
        go_roundw
        case rel => exact ⟨k + 1, by omega, by go_num, ⟨_, rfl⟩, HREST HE⟩
        case measure => simp [intOf] <;> omega
      · obtain rfl : k = n := by omega
        have HE : Hid (res = true) := Lib.hid (by rw [HR.out, List.drop_of_length_le (by omega), List.drop_of_length_le (by omega)]; rfl)
        clear HR
        go_wp2_with fail
        go_ret
        exact same_yes HE.out ⟨_, rfl⟩
  · have hv := same_len (pl := false) (l := ts) (m := us) (by omega)
    have HV := Lib.hid hv
    clear hv
    have hd : ((n : Int) != (n1 : Int)) = true := by simp; omega
    clear hl hl1
    go_enter Try.func11, Try.ntmps11
    go_wp2_with fail
    go_ret
    exact same_no HV.out ⟨0, rfl⟩
end Go.Proofs.Ytnppihlalhaldaa
