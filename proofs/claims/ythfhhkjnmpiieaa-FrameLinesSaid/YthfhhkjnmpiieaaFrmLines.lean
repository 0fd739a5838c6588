/-
  Walks: frame.Lines, the reference's Lines, All, Text; light.
  Conditions: none.
-/
import Derived.Test.YthfhhkjnmpiieaaFrmText
namespace Go.Proofs.Ythfhhkjnmpiieaa
set_option linter.unusedVariables false
set_option linter.unusedSimpArgs false
open Go.RowKit
def LinesPost (p : List Can.Fr × Int × Nat) (w : World) (e : Ending) (w' : World) : Prop :=
  ∃ A c, e = .returned (.tuple #[.slice A p.1.length c, .int .i64 p.2.1, .int .i64 (p.2.2 : Int)]) ∧ OFs w' w.heap.size A p.1.length c p.1 ∧ Below w.heap.size w w'
def strLen : Value → Nat
  | .string s => s.size
  | _ => 0
theorem lines_err {p : List Can.Fr × Int × Nat} {w w' : World} {x : Int} {k : Nat} (h : p = ([], x, k)) (hb : Below w.heap.size w w') : LinesPost p w (.returned (.tuple #[.slice none 0 0, .int .i64 x, .int .i64 (k : Int)])) w' := by
  subst h
  exact ⟨none, 0, rfl, OFs.none_ _ _, hb⟩
theorem lines_ok {p : List Can.Fr × Int × Nat} {w w' : World} {A : Option Addr} {n c : Nat} {l : List Can.Fr} (h : p = (l, 0, 0)) (hn : l.length = n) (ho : OFs w' w.heap.size A n c l) (hb : Below w.heap.size w w') : LinesPost p w (.returned (.tuple #[.slice A n c, .int .i64 0, .int .i64 0])) w' := by
  subst h hn
  exact ⟨A, c, rfl, ho, hb⟩
theorem linesF_nil (k : Nat) (l : List Can.Fr) : Can.linesF k [] l = (l, 0, 0) := by
  cases k <;> simp [Can.linesF]
theorem linesF_none {k : Nat} {s : List UInt8} {l : List Can.Fr} (hs : s.length < k) (hn : s ≠ []) (h : Can.lineS s = none) : Can.linesF k s l = ([], 4, l.length) := by
  obtain ⟨k, rfl⟩ : ∃ j, k = j + 1 := ⟨k - 1, by omega⟩
  rw [Can.linesF, if_neg hn, h]
theorem linesF_bad {k : Nat} {s a b : List UInt8} {l : List Can.Fr} {f : Can.Fr} {x : Int} (hs : s.length < k) (hn : s ≠ []) (h : Can.lineS s = some (a, b)) (hp : Can.parseS a = (f, x)) (hx : x ≠ 0) : Can.linesF k s l = ([], x, l.length) := by
  obtain ⟨k, rfl⟩ : ∃ j, k = j + 1 := ⟨k - 1, by omega⟩
  rw [Can.linesF, if_neg hn, h]
  simp only [hp]
  rw [if_neg hx]
theorem linesF_step {k : Nat} {s a b : List UInt8} {l : List Can.Fr} {f : Can.Fr} (hs : s.length < k) (hn : s ≠ []) (h : Can.lineS s = some (a, b)) (hp : Can.parseS a = (f, 0)) : Can.linesF k s l = Can.linesF (k - 1) b (l ++ [f]) := by
  obtain ⟨k, rfl⟩ : ∃ j, k = j + 1 := ⟨k - 1, by omega⟩
  rw [Can.linesF, if_neg hn, h]
  simp only [hp, if_true]
  rfl
set_option maxRecDepth 100000 in
set_option maxHeartbeats 4000000 in
theorem Lines_any (s : List UInt8) (w : World) (hs : s.length ≤ 100000) : Calls Try.prog 24 #[.string (T s)] w (LinesPost (Can.linesS s) w) := by
  generalize hres : Can.linesS s = res
  have HRES := Lib.hid hres; clear hres
  go_enter Try.func24, Try.ntmps24
  go_wp2_with fail
  go_loopw [0, 5] (fun u v wr => ∃ (k : Nat) (t : List UInt8) (l : List Can.Fr) (A : Option Addr) (c : Nat), u = .string (T t) ∧ v = .slice A l.length c ∧ Can.linesF k t l = res ∧ t.length < k ∧ t.length + l.length ≤ s.length ∧ OFs wr w.heap.size A l.length c l ∧ Below w.heap.size w wr) (fun u _ _ => strLen u)
  case atStart => exact ⟨s.length + 1, s, [], none, 0, rfl, rfl, HRES.out, by omega, by simp, OFs.none_ _ _, Below.refl _ _⟩
  case round =>
    obtain ⟨k, t, l, A, c, rfl, rfl, hlin, htk, hbd, hown, hbel⟩ := hrel
    have HLIN := Lib.hid hlin; clear hlin
    have hT := T_toList t
    by_cases hnil : t = []
    · subst hnil
      go_wp2_with fail
      go_ret3
      exact lines_ok (by rw [← HLIN.out, linesF_nil]) rfl hown hbel
    · have he1 : (t == []) = false := by rw [beq_eq_false_iff_ne]; exact hnil
      have he2 : t.isEmpty = false := by cases t <;> simp_all
      have HNIL := Lib.hid hnil; clear hnil
      cases hline : Can.lineS t with
      | none =>
        have HLN := Lib.hid hline; clear hline
        go_wp2_with fail
        refine (cut_any t _ (by omega)).mono ?_
        rintro e w1 ⟨he, b1⟩
        rw [HLN.out] at he
        dsimp only at he
        subst he
        go_wp2_with fail
        go_ret3
        exact lines_err (by rw [← HLIN.out, linesF_none htk HNIL.out HLN.out]) (below_step hbel b1 (Nat.le_refl _))
      | some ab =>
        obtain ⟨a, b⟩ := ab
        have hsplit := Can.lineS_len hline
        have hab : t.length = a.length + 1 + b.length := by rw [hsplit]; simp; omega
        have HLN := Lib.hid hline; clear hline hsplit
        have C2 := Lib.hid (fun w => Parse_any a w (by omega))
        generalize hpa : Can.parseS a = p at *
        obtain ⟨⟨fi, fr, fd⟩, pe⟩ := p
        have HPA := Lib.hid hpa; clear hpa
        by_cases hpe : pe = 0
        · subst hpe
          go_wp2_with fail
          refine (cut_any t _ (by omega)).mono ?_
          rintro e w1 ⟨he, b1⟩
          rw [HLN.out] at he
          dsimp only at he
          subst he
          have d1 := below_step hbel b1 (Nat.le_refl _)
          have o1 := hown.below b1
          go_wp2_with fail
          refine (C2.out _).mono ?_
          rintro e w2 ⟨A2, c2, he, h2, b2⟩
          dsimp only at he h2
          subst he
          have d2 := below_step d1 b2 (Nat.le_refl _)
          have o2 := o1.below b2
          have h2' := (h2.more (base' := w.heap.size) d1.size).alloc (.cells #[.int .i64 fi, .bool fr, .slice A2 fd.length c2] 24)
          have hz := d2.size
          go_wp2_with (at_builtin; refine wpList_appf rfl (.tmp 33) (.tmp 35) rfl rfl rfl (by simp) w.heap.size (o2.alloc _) ⟨fi, fr, fd⟩ h2' (by omega) (by simp; omega) ?_; intro A3 c3 w3 o3 b3 _)
          go_roundw
          case rel =>
            exact ⟨k - 1, b, l ++ [⟨fi, fr, fd⟩], A3, c3, rfl, by simp, by rw [← HLIN.out, linesF_step htk HNIL.out HLN.out HPA.out], by omega, by simp; omega, by simpa using o3, (d2.alloc d2.size _).trans b3⟩
          case measure => simp [strLen, T_size] <;> omega
        · have hb : (pe != 0) = true := by simpa using hpe
          have HE := Lib.hid hpe; clear hpe
          go_wp2_with fail
          refine (cut_any t _ (by omega)).mono ?_
          rintro e w1 ⟨he, b1⟩
          rw [HLN.out] at he
          dsimp only at he
          subst he
          have d1 := below_step hbel b1 (Nat.le_refl _)
          go_wp2_with fail
          refine (C2.out _).mono ?_
          rintro e w2 ⟨A2, c2, he, h2, b2⟩
          dsimp only at he
          subst he
          have d2 := below_step d1 b2 (Nat.le_refl _)
          clear h2
          go_wp2_with fail
          go_ret3
          exact lines_err (by rw [← HLIN.out, linesF_bad htk HNIL.out HLN.out HPA.out HE.out]) (d2.alloc d2.size _)
set_option maxRecDepth 100000 in
set_option maxHeartbeats 4000000 in
theorem RLines_any (s : List UInt8) (w : World) (hs : s.length ≤ 100000) : Calls Try.prog 25 #[.string (T s)] w (LinesPost (Can.linesS s) w) := by
  generalize hres : Can.linesS s = res
  have HRES := Lib.hid hres; clear hres
  go_enter Try.func25, Try.ntmps25
  go_wp2_with fail
  go_loopw [0, 5, 6] (fun u v i wr => ∃ (k : Nat) (t : List UInt8) (l : List Can.Fr) (A : Option Addr) (c : Nat), u = .string (T t) ∧ v = .slice A l.length c ∧ i = .int .i64 l.length ∧ Can.linesF k t l = res ∧ t.length < k ∧ t.length + l.length ≤ s.length ∧ OFs wr w.heap.size A l.length c l ∧ Below w.heap.size w wr) (fun u _ _ _ => strLen u)
  case atStart => exact ⟨s.length + 1, s, [], none, 0, rfl, rfl, rfl, HRES.out, by omega, by simp, OFs.none_ _ _, Below.refl _ _⟩
  case round =>
    obtain ⟨k, t, l, A, c, rfl, rfl, rfl, hlin, htk, hbd, hown, hbel⟩ := hrel
    have HLIN := Lib.hid hlin; clear hlin
    have hT := T_size t
    by_cases hnil : t.length = 0
    · have ht0 : t = [] := List.eq_nil_of_length_eq_zero hnil
      subst ht0
      go_wp2_with fail
      go_ret3
      exact lines_ok (by rw [← HLIN.out, linesF_nil]) rfl hown hbel
    · have hpos : 0 < t.length := by omega
      have HNIL : Hid (t ≠ []) := Lib.hid (fun e => hnil (by rw [e]; rfl))
      clear hnil
      obtain ⟨wo, rfl⟩ : ∃ wo : World, wo = wr := ⟨_, rfl⟩
      go_wp2_with fail
      go_loop [7] (fun j => ∃ m : Nat, m ≤ t.length ∧ j = .int .i64 m ∧ ∀ q, q < m → t.getD q 0 ≠ 10) (fun j => t.length - (intOf j).toNat)
      case atStart => exact ⟨0, by omega, rfl, fun _ h => absurd h (by omega)⟩
      case round =>
        obtain ⟨m, hm, rfl, hno⟩ := hrel
        have HN := Lib.hid hno; clear hno
        by_cases hlt : m < t.length
        · have hat := fun w => run_T_at t .i64 (m : Int) m rfl hlt w
          generalize hx : t.getD m 0 = x at *
          have HX := Lib.hid hx; clear hx
          by_cases h10 : x = 10
          · subst h10
            have hb : (((10 : UInt8).toNat : Int) != 10) = false := by decide
            have hmne : ((m : Int) == (t.length : Int)) = false := by rw [beq_eq_false_iff_ne]; omega
            have hh := fun w => run_T_head t .i64 (m : Int) m rfl (by omega) w
            have hr := fun w => run_T_rest t .i64 ((m : Int) + 1) (m + 1) (by omega) (by omega) w
            have hline := Can.lineS_at hlt HX.out HN.out
            have hab : (t.take m).length = m := by rw [List.length_take]; omega
            have hbl : (t.drop (m + 1)).length = t.length - (m + 1) := List.length_drop
            generalize t.take m = a at *
            generalize t.drop (m + 1) = b at *
            have HLN := Lib.hid hline; clear hline
            have C2 := Lib.hid (fun w => RParse_any a w (by omega))
            generalize hpa : Can.parseS a = p at *
            obtain ⟨⟨fi, fr, fd⟩, pe⟩ := p
            have HPA := Lib.hid hpa; clear hpa
            have HAB := Lib.hid hab; have HBL := Lib.hid hbl; clear hab hbl
            by_cases hpe : pe = 0
            · subst hpe
              go_wp2_with fail
              refine (C2.out _).mono ?_
              rintro e w2 ⟨A2, c2, he, h2, b2⟩
              dsimp only at he h2
              subst he
              have d2 := below_step hbel b2 (Nat.le_refl _)
              have o2 := hown.below b2
              have h2' := (h2.more (base' := w.heap.size) hbel.size).alloc (.cells #[.int .i64 fi, .bool fr, .slice A2 fd.length c2] 24)
              have hz := d2.size
              go_wp2_with (at_builtin; refine wpList_appf rfl (.tmp 43) (.tmp 45) rfl rfl rfl (by simp) w.heap.size (o2.alloc _) ⟨fi, fr, fd⟩ h2' (by omega) (by simp; omega) ?_; intro A3 c3 w3 o3 b3 _)
              go_roundw
              case rel =>
                exact ⟨k - 1, b, l ++ [⟨fi, fr, fd⟩], A3, c3, rfl, by simp, by simp, by rw [← HLIN.out, linesF_step htk HNIL.out HLN.out HPA.out], by have := HBL.out; omega, by have := HBL.out; simp; omega, by simpa using o3, (d2.alloc d2.size _).trans b3⟩
              case measure =>
                have := HBL.out
                simp [strLen, T_size] <;> omega
            · have hb2 : (pe != 0) = true := by simpa using hpe
              have HE := Lib.hid hpe; clear hpe
              go_wp2_with fail
              refine (C2.out _).mono ?_
              rintro e w2 ⟨A2, c2, he, h2, b2⟩
              dsimp only at he
              subst he
              have d2 := below_step hbel b2 (Nat.le_refl _)
              clear h2
              go_wp2_with fail
              go_ret3
              exact lines_err (by rw [← HLIN.out, linesF_bad htk HNIL.out HLN.out HPA.out HE.out]) (d2.alloc d2.size _)
          · have hb : ((x.toNat : Int) != 10) = true := by
              rw [bne_iff_ne]
              intro h
              exact h10 (UInt8.toNat_inj.1 (by have : (10 : UInt8).toNat = 10 := rfl; omega))
            have H10 := Lib.hid h10; clear h10
            go_wp2_with fail
            go_round
            case rel =>
              refine ⟨m + 1, by omega, by go_num, fun j hj => ?_⟩
              rcases Nat.lt_or_ge j m with h | h
              · exact HN.out j h
              · obtain rfl : j = m := by omega
                rw [HX.out]; exact H10.out
            case measure => simp [intOf] <;> omega
        · obtain rfl : m = t.length := by omega
          have hb : ((t.length : Int) == (t.length : Int)) = true := by simp
          have HLN := Lib.hid (Can.lineS_none HN.out)
          go_wp2_with fail
          go_ret3
          exact lines_err (by rw [← HLIN.out, linesF_none htk HNIL.out HLN.out]) hbel
set_option maxRecDepth 100000 in
set_option maxHeartbeats 2000000 in
/-- Two slices of the same frames. -/
theorem All_any {A : Option Addr} {n c B : Nat} {fs : List Can.Fr} {A' : Option Addr} {c' B' : Nat} (w : World) (h : RF w B A n c fs) (h' : RF w B' A' n c' fs) (hB : B ≤ w.heap.size) (hB' : B' ≤ w.heap.size) :
    Calls Try.prog 26 #[.slice A n c, .slice A' n c'] w fun e w' => e = .returned (.bool true) ∧ Below w.heap.size w w' := by
  have hn := h.lt
  go_enter Try.func26, Try.ntmps26
  go_wp2_with fail
  go_loopw [5] (fun i wr => ∃ k : Nat, k ≤ n ∧ i = .int .i64 k ∧ Below w.heap.size w wr) (fun i _ => n - (intOf i).toNat)
  case atStart => exact ⟨0, by omega, rfl, Below.refl _ _⟩
  case round =>
    obtain ⟨k, hk, rfl, hbel⟩ := hrel
    by_cases hlt : k < n
    · obtain ⟨b, o, A1, n1, c1, rfl, hbB, q0, q1, q2, hr⟩ := (h.below (hbel.mono hB)).at_ hlt
      obtain ⟨b', o', A2, n2, c2, rfl, hbB', q0', q1', q2', hr'⟩ := (h'.below (hbel.mono hB')).at_ hlt
      generalize fs.getD k Can.zero = f at *
      obtain ⟨fi, fr, fd⟩ := f
      dsimp only at *
      have SR := Lib.hid (Can.sameB_refl ⟨fi, fr, fd⟩)
      replace q0 := cell_regrown q0
      replace q1 := cell_regrown q1
      replace q2 := cell_regrown q2
      replace q0' := cell_regrown q0'
      replace q1' := cell_regrown q1'
      replace q2' := cell_regrown q2'
      have hz := hbel.size
      go_wp2_with fail
      refine region_later (by kernel_rfl) ?_
      refine phase_later (by kernel_rfl) 2 (below_drew _) [0, 1, 4, 5, 2, 6, 3, 7] rfl (by kernel_rfl) ?_
      simp only [picks, nth]
      repeat (go_big_quiet_step (fail))
      refine wpQuiet_nil ?_
      refine phase_op 8 1 rfl (by kernel_rfl) (by decide) ?_
      simp only [nth]
      go_wp2_with fail
      refine (RSame_any fi fr fi fr _ hr.drew hr'.drew (Nat.le_trans hB hz) (Nat.le_trans hB' hz)).mono ?_
      rintro e w1 ⟨he, b1⟩
      rw [SR.out] at he
      subst he
      have d1 := below_step (below_drew wr) b1 (Nat.le_refl _)
      go_wp2_with fail
      refine behind_later d1 ?_
      refine phase_later (by kernel_rfl) 0 (Below.refl _ _) [9] rfl (by kernel_rfl) ?_
      simp only [picks, nth]
      repeat (go_big_quiet_step (fail))
      refine wpQuiet_nil ?_
      refine phase_end (by kernel_rfl) ?_
      go_wp2_with fail
      go_roundw
      case rel => exact ⟨k + 1, by omega, by go_num, below_step hbel d1 (Nat.le_refl _)⟩
      case measure => simp [intOf] <;> omega
    · obtain rfl : k = n := by omega
      go_wp2_with fail
      go_ret
      exact ⟨rfl, hbel⟩
end Go.Proofs.Ythfhhkjnmpiieaa
