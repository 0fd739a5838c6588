/-
  Walks: txq.New, own, upper, and the closure that Put hands it.
  Conditions: none.
-/
import Derived.Test.YtmhcobhpdlpoeaaFrmFoot
import Derived.Test.YtmhcobhpdlpoeaaTxqPure
import Derived.Test.YtmhcobhpdlpoeaaFrm
namespace Go.Proofs.Ytmhcobhpdlpoeaa
set_option linter.unusedVariables false
set_option linter.unusedSimpArgs false
open Go.RowKit
theorem New_bad (room : Int) (w : World) (h : ¬ (1 ≤ room ∧ room ≤ 64)) : Calls Try.prog 7 #[.int .i64 room] w fun e w' => e = .returned (.tuple #[.pointer none, .int .i64 1]) ∧ w = w' := by
  by_cases h1 : room < 1
  · clear h
    go_enter Try.func7, Try.ntmps7
    go_wp2_with fail
    go_ret2
    exact ⟨rfl, rfl⟩
  · have h2 : 64 < room := by omega
    clear h
    go_enter Try.func7, Try.ntmps7
    go_wp2_with fail
    go_ret2
    exact ⟨rfl, rfl⟩
theorem New_ok (room : Int) (w : World) (h1 : 1 ≤ room) (h2 : room ≤ 64) : Calls Try.prog 7 #[.int .i64 room] w fun e w' => e = .returned (.tuple #[.pointer (some ⟨w.heap.size, 0, none⟩), .int .i64 0]) ∧
    w' = w.alloc (.cells #[.int .i64 room, .slice none 0 0, .int .i64 0, .bool false] 56) := by
  go_enter Try.func7, Try.ntmps7
  go_wp2_with fail
  go_ret2
  exact ⟨rfl, rfl⟩
set_option maxRecDepth 100000 in
set_option maxHeartbeats 1000000 in
theorem own_any (i : Int) (r : Bool) {A : Option Addr} {n c B : Nat} {l : List UInt8} (w : World) (h : RB w B A n c l) (hB : B ≤ w.heap.size) (hn : n ≤ 140737488355328) :
    Calls Try.prog 33 #[.agg #[.int .i64 i, .bool r, .slice A n c]] w fun e w' => ∃ A1 c1, e = .returned (.agg #[.int .i64 i, .bool r, .slice A1 n c1]) ∧ OB w' w.heap.size A1 n c1 l ∧ Below w.heap.size w w' := by
  have hd := alloc_two w (.cells #[.int .i64 i, .bool r, .slice A n c] 29) (.cells #[.int .i64 0, .bool false, .slice none 0 0] 29)
  have h' := h.below (hd.mono hB)
  go_enter Try.func33, Try.ntmps33
  go_wp2_with (at_builtin; refine wpList_appb_nil etb rfl (.const (.slice none 0 0)) (.tmp 4) rfl rfl rfl w.heap.size h' (by omega) (by simp; omega) ?_; intro A1 c1 w1 o1 b1; have K0 := ((Blk.new w 29 #[.int .i64 i, .bool r, .slice A n c]).alloc (.cells #[.int .i64 0, .bool false, .slice none 0 0] 29)).later b1; have K1 := (Blk.new (w.alloc (.cells #[.int .i64 i, .bool r, .slice A n c] 29)) 29 #[.int .i64 0, .bool false, .slice none 0 0]).later b1; simp only [World.size_alloc] at K1; have F0 := K0.three; have F1 := K1.three)
  obtain ⟨r0, r1, r2, r3⟩ := ((K1.far (p := ⟨w.heap.size, 2, none⟩) (by show w.heap.size + 1 ≠ w.heap.size; omega) (.slice A1 n c1)).store3 (.int .i64 i) (.bool r) (.slice A1 n c1)).three
  have d1 : Below w.heap.size w w1 := hd.trans (b1.mono (by simp; omega))
  exact bodyPost_ret (v := .agg #[.int .i64 i, .bool r, .slice A1 n c1]) (by simp [results, Try.results33, go_sem, r0, r1, r2]) rfl
    ⟨A1, c1, rfl, ((o1.far (g := w.heap.size) (by simp; omega) 2 (.slice A1 n c1)).far3 (g := w.heap.size + 1) (by simp) 0 1 2 (.int .i64 i) (.bool r) (.slice A1 n c1)).more (by simp; omega),
      below_set3 (d1.setCell (p := ⟨w.heap.size, 2, none⟩) (Nat.le_refl _) _) (by omega) _ _ _ _ _ _⟩
set_option maxRecDepth 100000 in
set_option maxHeartbeats 1000000 in
theorem RLent_any (i : Int) (r : Bool) {A : Option Addr} {n c B : Nat} {l : List UInt8} (w : World) (h : RB w B A n c l) (hB : B ≤ w.heap.size) (hn : n < 140737488355328) :
    Calls Try.prog 35 #[.agg #[.int .i64 i, .bool r, .slice A n c]] w fun e w' => ∃ A1 c1, e = .returned (.agg #[.int .i64 i, .bool r, .slice A1 n c1]) ∧ OB w' w.heap.size A1 n c1 l ∧ Below w.heap.size w w' := by
  have hd := alloc_two w (.cells #[.int .i64 i, .bool r, .slice A n c] 29) (.cells #[.int .i64 0, .bool false, .slice none 0 0] 29)
  have h' := h.below (hd.mono hB)
  go_enter Try.func35, Try.ntmps35
  go_wp2_with fail
  refine (Join_any _ (RB.none_ (B := 0)) h' (by omega) (by omega) (by simp; omega)).mono ?_
  rintro e w1 ⟨A1, c1, he, o1, b1⟩
  rw [Nat.zero_add] at he o1
  rw [List.nil_append] at o1
  subst he
  have K0 := ((Blk.new w 29 #[.int .i64 i, .bool r, .slice A n c]).alloc (.cells #[.int .i64 0, .bool false, .slice none 0 0] 29)).later b1
  have K1 := (Blk.new (w.alloc (.cells #[.int .i64 i, .bool r, .slice A n c] 29)) 29 #[.int .i64 0, .bool false, .slice none 0 0]).later b1
  simp only [World.size_alloc] at K1
  have F0 := K0.three
  have F1 := K1.three
  go_wp2_with fail
  obtain ⟨r0, r1, r2, r3⟩ := ((K1.far (p := ⟨w.heap.size, 2, none⟩) (by show w.heap.size + 1 ≠ w.heap.size; omega) (.slice A1 n c1)).store3 (.int .i64 i) (.bool r) (.slice A1 n c1)).three
  have d1 : Below w.heap.size w w1 := hd.trans (b1.mono (by simp; omega))
  exact bodyPost_ret (v := .agg #[.int .i64 i, .bool r, .slice A1 n c1]) (by simp [results, Try.results35, go_sem, r0, r1, r2]) rfl
    ⟨A1, c1, rfl, ((o1.far (g := w.heap.size) (by simp; omega) 2 (.slice A1 n c1)).far3 (g := w.heap.size + 1) (by simp) 0 1 2 (.int .i64 i) (.bool r) (.slice A1 n c1)).more (by simp; omega),
      below_set3 (d1.setCell (p := ⟨w.heap.size, 2, none⟩) (Nat.le_refl _) _) (by omega) _ _ _ _ _ _⟩
set_option maxRecDepth 100000 in
set_option maxHeartbeats 1000000 in
/-- Put's closure: does f go ahead? -/
theorem ahead_any (i : Int) (r : Bool) (A : Option Addr) (n c : Nat) (i' : Int) (r' : Bool) {A' : Option Addr} {n' c' : Nat} (g : Nat) (w : World) (hg : Blk w g 29 #[.int .i64 i, .bool r, .slice A n c]) :
    Calls Try.prog 31 #[.agg #[.int .i64 i', .bool r', .slice A' n' c'], .pointer (some ⟨g, 0, none⟩)] w fun e w' => e = .returned (.bool (Can.beforeN i r i' r')) ∧ Below w.heap.size w w' := by
  have F0 := hg.three
  have hlt := hg.lt
  go_enter Try.func31, Try.ntmps31
  go_wp2_with fail
  refine (Before_any i r i' r' _).mono ?_
  rintro e w1 ⟨rfl, b1⟩
  go_wp2_with fail
  go_ret
  exact ⟨rfl, below_step (alloc_one _ _) b1 (Nat.le_refl _)⟩
set_option maxRecDepth 100000 in
set_option maxHeartbeats 2000000 in
theorem upper_any (i : Int) (r : Bool) (Af : Option Addr) (nf cf : Nat) (fd : List UInt8) (gf : Nat) {A : Option Addr} {n c B : Nat} {fs : List Can.Fr} (w : World) (h : RF w B A n c fs) (hB : B ≤ w.heap.size) (hg : Blk w gf 29 #[.int .i64 i, .bool r, .slice Af nf cf]) :
    Calls Try.prog 30 #[.slice A n c, .func (.func 31) #[] #[.pointer (some ⟨gf, 0, none⟩)]] w fun e w' => e = .returned (.int .i64 (Can.upS ⟨i, r, fd⟩ fs : Int)) ∧ Below w.heap.size w w' := by
  have hn := h.lt
  have hl := h.len
  have HL := Lib.hid hl; clear hl
  go_enter Try.func30, Try.ntmps30
  go_wp2_with fail
  go_loopw [9] (fun v wr => ∃ k : Nat, k ≤ n ∧ v = .int .i64 k ∧ (∀ j, j < k → Can.before ⟨i, r, fd⟩ (fs.getD j Can.zero) = false) ∧ Below w.heap.size w wr) (fun v _ => n - (intOf v).toNat)
  case atStart => exact ⟨0, by omega, rfl, fun _ h => absurd h (by omega), Below.refl _ _⟩
  case round =>
    obtain ⟨k, hk, rfl, hno, hbel⟩ := hrel
    have HN := Lib.hid hno; clear hno
    by_cases hlt : k < n
    · obtain ⟨b, o, A1, n1, c1, rfl, hbB, q0, q1, q2, hr⟩ := (h.below (hbel.mono hB)).at_ hlt
      generalize hf : fs.getD k Can.zero = f at *
      obtain ⟨fi, fr, fdd⟩ := f
      dsimp only at *
      have HF := Lib.hid hf; clear hf
      have hg1 := (hg.later hbel).alloc (.cells #[.int .i64 fi, .bool fr, .slice A1 n1 c1] 29)
      cases hb : Can.beforeN i r fi fr with
      | true =>
        have HB := Lib.hid hb; clear hb
        go_wp2_with fail
        refine (ahead_any i r Af nf cf fi fr gf _ hg1).mono ?_
        rintro e w1 ⟨he, b1⟩
        rw [HB.out] at he
        subst he
        go_wp2_with fail
        go_ret
        refine ⟨ret_int ?_, below_step (below_step hbel (alloc_one wr _) (Nat.le_refl _)) b1 (Nat.le_refl _)⟩
        rw [Can.upS_at (k := k) (by rw [HL.out]; exact hlt) (by rw [HF.out]; exact HB.out) HN.out]
      | false =>
        have HB := Lib.hid hb; clear hb
        go_wp2_with fail
        refine (ahead_any i r Af nf cf fi fr gf _ hg1).mono ?_
        rintro e w1 ⟨he, b1⟩
        rw [HB.out] at he
        subst he
        go_wp2_with fail
        go_roundw
        case rel =>
          refine ⟨k + 1, by omega, by go_num, fun j hj => ?_, below_step (below_step hbel (alloc_one wr _) (Nat.le_refl _)) b1 (Nat.le_refl _)⟩
          rcases Nat.lt_or_ge j k with h | h
          · exact HN.out j h
          · obtain rfl : j = k := by omega
            rw [HF.out]; exact HB.out
        case measure => simp [intOf] <;> omega
    · obtain rfl : k = n := by omega
      go_wp2_with fail
      go_ret
      refine ⟨ret_int ?_, hbel⟩
      rw [Can.upS_end (by rw [HL.out]; exact HN.out), HL.out]
end Go.Proofs.Ytmhcobhpdlpoeaa
