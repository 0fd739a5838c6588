/-
  Walk: head of package lex, over any of its kinds of signs.
  Conditions: none.
-/
import Derived.Test.YtnppihlalhaldaaLexPred
import Derived.Laws.Runes
import Derived.KernelRfl
namespace Go.Proofs.Ytnppihlalhaldaa
set_option linter.unusedVariables false
set_option linter.unusedSimpArgs false
open Go.RowKit
theorem T_get0 (s : List UInt8) (i : Nat) : (T s).get! i = s.getD i 0 := by
  show s.toArray[i]! = _
  rw [List.getD_eq_getElem?_getD]
  by_cases h : i < s.length
  · rw [getElem!_pos s.toArray i (by simpa using h), List.getElem?_eq_getElem h]; simp
  · rw [getElem!_neg s.toArray i (by simpa using h), List.getElem?_eq_none (by omega)]; rfl
theorem dec_at (s : List UInt8) (k : Nat) (hk : k < s.length) :
    ((s.getD k 0).toNat < 128 ∧ Utf8.decode (T s) k = ((s.getD k 0).toNat, 1)) ∨
    (128 ≤ (s.getD k 0).toNat ∧ 128 ≤ (Utf8.decode (T s) k).1 ∧ (Utf8.decode (T s) k).1 ≤ 1114111 ∧ 1 ≤ (Utf8.decode (T s) k).2 ∧ k + (Utf8.decode (T s) k).2 ≤ s.length ∧ ∀ j, k ≤ j → j < k + (Utf8.decode (T s) k).2 → 128 ≤ (s.getD j 0).toNat) := by
  have hle := Lib.rune_le (T s) k
  rw [Lib.decode_at, T_size, T_get0, T_get0, T_get0, T_get0] at *
  by_cases h : (s.getD k 0).toNat < 128
  · left
    exact ⟨h, by rw [Lib.decodeN, if_pos h]⟩
  · right
    refine ⟨by omega, ?_⟩
    rcases Lib.decodeN_shape (s.length - k) (s.getD k 0).toNat (s.getD (k + 1) 0).toNat (s.getD (k + 2) 0).toNat (s.getD (k + 3) 0).toNat with ⟨h1, _⟩ | ⟨h1, h2, h3, h4, e⟩ | ⟨h1, h2, h3, h4, h5, h6, e⟩ | ⟨h1, h2, h3, h4, h5, h6, h7, e⟩ | e
    · exact absurd h1 h
    all_goals
      rw [e] at hle ⊢
      dsimp only at hle ⊢
      refine ⟨by omega, by omega, by omega, by omega, fun j hj1 hj2 => ?_⟩
      rcases (show j = k ∨ j = k + 1 ∨ j = k + 2 ∨ j = k + 3 by omega) with rfl | rfl | rfl | rfl <;> omega
theorem tw_cut {p : UInt8 → Bool} : ∀ {s : List UInt8} {k : Nat}, (s.take k).all p = true → k < s.length → p (s.getD k 0) = false → s.takeWhile p = s.take k
  | [], k, _, hk, _ => absurd hk (by simp)
  | c :: r, 0, _, _, hp => by
    rw [List.takeWhile_cons, if_neg (by rw [show p c = false from hp]; decide)]
    rfl
  | c :: r, k + 1, h, hk, hp => by
    rw [List.take_succ_cons, List.all_cons, Bool.and_eq_true] at h
    rw [List.takeWhile_cons, if_pos h.1, List.take_succ_cons, tw_cut h.2 (by simpa using hk) hp]
theorem tw_all {p : UInt8 → Bool} : ∀ {s : List UInt8}, s.all p = true → s.takeWhile p = s
  | [], _ => rfl
  | c :: r, h => by
    rw [List.all_cons, Bool.and_eq_true] at h
    rw [List.takeWhile_cons, if_pos h.1, tw_all h.2]
theorem all_more {p : UInt8 → Bool} {s : List UInt8} {k m : Nat} (h : (s.take k).all p = true) (hj : ∀ j, k ≤ j → j < k + m → p (s.getD j 0) = true) (hm : k + m ≤ s.length) : (s.take (k + m)).all p = true := by
  induction m with
  | zero => exact h
  | succ m ih =>
    have h1 := ih (fun j a b => hj j a (by omega)) (by omega)
    have h2 := hj (k + m) (by omega) (by omega)
    rw [← Nat.add_assoc, List.take_succ_eq_append_getElem (show k + m < s.length by omega), List.all_append, h1]
    rw [List.getD_eq_getElem?_getD, List.getElem?_eq_getElem (show k + m < s.length by omega)] at h2
    simpa using h2
set_option maxRecDepth 100000 in
set_option maxHeartbeats 2000000 in
theorem head_walk (g : Nat) (r : Nat → Bool) (hi : Bool) (hhi : ∀ x, 128 ≤ x → r x = hi) (eg : ∀ args w, (callFunc g args).run Try.prog w = .ok (.enter g args) w)
    (C : ∀ (x : Nat) (w : World), x ≤ 1114111 → Calls Try.prog g #[.int .i32 (x : Int)] w fun e w' => e = .returned (.bool (r x)) ∧ w' = w) (s : List UInt8) (w : World) (hs : s.length ≤ 1000000) :
    Calls Try.prog 19 #[.string (T s), .func (.func g) #[] #[]] w fun e w' => e = .returned (.string (T (s.takeWhile fun c => r c.toNat))) ∧ Below w.heap.size w w' := by
  have hT := T_size s
  have C' := Lib.hid C; clear C
  have HHI := Lib.hid hhi; clear hhi
  go_enter Try.func19, Try.ntmps19
  go_wp2_with fail
  go_loopw [5] (fun _ wr => ∃ pos : Nat, pos ≤ s.length ∧ wr = w.iter (T s) pos ∧ Hid ((s.take pos).all (fun c => r c.toNat) = true)) (fun _ wr => s.length - wr.iterPos w.heap.size)
  case atStart => exact ⟨0, by omega, rfl, Lib.hid rfl⟩
  case round =>
    obtain ⟨pos, hpos, rfl, hall⟩ := hrel
    have hbl := alloc_one w (.stringIter (T s) pos)
    by_cases hlt : pos < s.length
    · have hd := dec_at s pos hlt
      have hnx : ∀ ty, (Instr.next (.pointer (some ⟨w.heap.size, 0, none⟩)) true ty).run Try.prog (w.iter (T s) pos) = _ := fun ty => run_next_any w (T s) pos ty (by rw [T_size]; exact hlt)
      obtain ⟨R, hR⟩ : ∃ R, (Utf8.decode (T s) pos).1 = R := ⟨_, rfl⟩
      obtain ⟨K, hK⟩ : ∃ K, (Utf8.decode (T s) pos).2 = K := ⟨_, rfl⟩
      rw [hR, hK] at hnx hd
      have hfacts : R ≤ 1114111 ∧ 1 ≤ K ∧ pos + K ≤ s.length ∧ (∀ j, pos ≤ j → j < pos + K → r (s.getD j 0).toNat = r R) := by
        rcases hd with ⟨h1, h2⟩ | ⟨h1, h2, h3, h4, h5, h6⟩
        · rw [h2] at hR hK
          dsimp only at hR hK
          subst hR hK
          refine ⟨by omega, by omega, by omega, fun j a b => ?_⟩
          obtain rfl : j = pos := by omega
          rfl
        · exact ⟨h3, h4, h5, fun j a b => by rw [HHI.out _ h2, HHI.out _ (h6 j a b)]⟩
      clear hd hR hK
      obtain ⟨f1, f2, f3, f4⟩ := hfacts
      have HF := Lib.hid f4; clear f4
      have CR := C'.out R (w.iter (T s) (pos + K)) f1
      generalize hr : r R = x at *
      replace CR := Lib.hid CR
      cases x with
      | true =>
        have H2 := Lib.hid (all_more hall.out (fun j a b => HF.out j a b) f3)
        clear hr
        go_wp2_with fail
        refine (CR.out).mono ?_
        rintro e _ ⟨rfl, rfl⟩
        go_wp2_with fail
        go_roundw
        case rel => exact ⟨pos + K, f3, rfl, H2⟩
        case measure => simp <;> omega
      | false =>
        have H2 := Lib.hid (tw_cut hall.out hlt (HF.out pos (Nat.le_refl _) (by omega)))
        have hcut := fun w => run_T_head s .i64 pos pos rfl hpos w
        have hb2 := alloc_one w (.stringIter (T s) (pos + K))
        clear hr
        go_wp2_with fail
        refine (CR.out).mono ?_
        rintro e _ ⟨rfl, rfl⟩
        go_wp2_with fail
        go_ret
        exact ⟨by rw [H2.out]; rfl, hb2⟩
    · obtain rfl : pos = s.length := by omega
      have hnx : ∀ ty, (Instr.next (.pointer (some ⟨w.heap.size, 0, none⟩)) true ty).run Try.prog (w.iter (T s) s.length) = _ := fun ty => run_next_end w (T s) s.length ty (by rw [T_size]; omega)
      have H2 := Lib.hid (tw_all (s := s) (p := fun c => r c.toNat) (by have := hall.out; rwa [List.take_length] at this))
      go_wp2_with fail
      go_ret
      exact ⟨by rw [H2.out]; rfl, hbl⟩
theorem head_blank (s : List UInt8) (w : World) (hs : s.length ≤ 1000000) :
    Calls Try.prog 19 #[.string (T s), .func (.func 20) #[] #[]] w fun e w' => e = .returned (.string (T (s.takeWhile Lx.blank))) ∧ Below w.heap.size w w' := by
  have e : Lx.blank = fun c => Lx.rB c.toNat := funext Lx.blank_r
  rw [e]
  exact head_walk _ Lx.rB false (fun x hx => by rw [Bool.eq_iff_iff]; simp [Lx.rB, Lx.rL, Lx.rD] <;> omega) (fun _ _ => by kernel_rfl) lblank_any s w hs
theorem head_inline (s : List UInt8) (w : World) (hs : s.length ≤ 1000000) :
    Calls Try.prog 19 #[.string (T s), .func (.func 21) #[] #[]] w fun e w' => e = .returned (.string (T (s.takeWhile Lx.line))) ∧ Below w.heap.size w w' := by
  have e : Lx.line = fun c => Lx.rN c.toNat := funext Lx.line_r
  rw [e]
  exact head_walk _ Lx.rN true (fun x hx => by rw [Bool.eq_iff_iff]; simp [Lx.rN, Lx.rL, Lx.rD] <;> omega) (fun _ _ => by kernel_rfl) inline_any s w hs
theorem head_inner (s : List UInt8) (w : World) (hs : s.length ≤ 1000000) :
    Calls Try.prog 19 #[.string (T s), .func (.func 23) #[] #[]] w fun e w' => e = .returned (.string (T (s.takeWhile Lx.inW))) ∧ Below w.heap.size w w' := by
  have e : Lx.inW = fun c => Lx.rW c.toNat := funext Lx.inW_r
  rw [e]
  exact head_walk _ Lx.rW false (fun x hx => by rw [Bool.eq_iff_iff]; simp [Lx.rW, Lx.rL, Lx.rD] <;> omega) (fun _ _ => by kernel_rfl) rune_inner s w hs
theorem head_hex (s : List UInt8) (w : World) (hs : s.length ≤ 1000000) :
    Calls Try.prog 19 #[.string (T s), .func (.func 25) #[] #[]] w fun e w' => e = .returned (.string (T (s.takeWhile Lx.isH))) ∧ Below w.heap.size w w' := by
  have e : Lx.isH = fun c => Lx.rH c.toNat := funext Lx.isH_r
  rw [e]
  exact head_walk _ Lx.rH false (fun x hx => by rw [Bool.eq_iff_iff]; simp [Lx.rH, Lx.rL, Lx.rD] <;> omega) (fun _ _ => by kernel_rfl) rune_hex s w hs
theorem head_digit (s : List UInt8) (w : World) (hs : s.length ≤ 1000000) :
    Calls Try.prog 19 #[.string (T s), .func (.func 27) #[] #[]] w fun e w' => e = .returned (.string (T (s.takeWhile Ty.isD))) ∧ Below w.heap.size w w' := by
  have e : Ty.isD = fun c => Lx.rD c.toNat := funext Lx.isD_r
  rw [e]
  exact head_walk _ Lx.rD false (fun x hx => by rw [Bool.eq_iff_iff]; simp [Lx.rD, Lx.rL, Lx.rD] <;> omega) (fun _ _ => by kernel_rfl) rune_digit s w hs
end Go.Proofs.Ytnppihlalhaldaa
