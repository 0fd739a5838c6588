/-
  Walk: LexJoins.
  Conditions: none.
-/
import Derived.Test.YtnppihlalhaldaaKnown
import Derived.Test.YtnppihlalhaldaaLexPl
namespace Go.Proofs.Ytnppihlalhaldaa
set_option linter.unusedVariables false
set_option linter.unusedSimpArgs false
open Go.RowKit
section
variable {P : Program}
/-- 'append' behind a guard that holds. -/
theorem wpList_app_g {T E size bytes : Nat} {z : Value} (ht : ET P T E size bytes z) {w : World} {ops : Array Oper} {rest : List Oper} {o : Oper} {a : Act} {Q : Exit → Act → World → Prop} (hw : Region.wanted o (yielded ops a.tmps) = true) (s x : Operand)
    (ho : o.op = .call { callee := .builtin .append, args := #[s, x], argTypes := #[T, T] })
    {A : Option Addr} {n c : Nat} (hs : a.eval s = .slice A n c) {A' : Option Addr} {m c' : Nat} (hx : a.eval x = .slice A' m c')
    (base : Nat) {xs : List Value} (hown : OV w base E size A n c xs) {B : Nat} {news : List Value} (hr : RV w B size A' m c' news) (h1 : ∀ u ∈ news, u.oneCell' = true)
    (hbytes : (n + m) * bytes ≤ 140737488355328) (h63 : n + m ≤ 9223372036854775807) (hbase : base ≤ w.heap.size)
    (h : ∀ A1 c1 w1, OV w1 base E size A1 (n + m) c1 (xs ++ news) → w.grownBy w1 (Value.slice A n c).ownBlock →
      ((Value.slice A1 (n + m) c1).ownBlock = (Value.slice A n c).ownBlock ∨ (Value.slice A1 (n + m) c1).ownBlock = some w.heap.size) → wpList P ops Q rest (a.put o.dst (.slice A1 (n + m) c1)) w1) :
    wpList P ops Q (o :: rest) a w :=
  wpList_step fun K hK => by
    rw [if_pos hw]
    exact wp_app ht s x ho hs hx base hown hr h1 hbytes h63 hbase fun A1 c1 w1 h2 h3 h4 => hK _ _ (h A1 c1 w1 h2 h3 h4)
end
theorem rows_one {ts : List Lx.Tk} {xs : List Value} (h : Rows TkR 4 ts xs) : ∀ u ∈ xs, u.oneCell' = true := by
  intro u hu
  obtain ⟨i, hi, rfl⟩ := List.getElem_of_mem hu
  have hl := h.len
  have hlt : i / 4 < ts.length := by omega
  have h1 := h.2 (i / 4) _ (List.getElem?_eq_getElem hlt)
  have h2 : xs[i] ∈ (xs.drop (i / 4 * 4)).take 4 := by
    rw [List.mem_iff_getElem?]
    refine ⟨i % 4, ?_⟩
    rw [List.getElem?_take, if_pos (by omega), List.getElem?_drop, show i / 4 * 4 + i % 4 = i by omega, List.getElem?_eq_getElem hi]
  rw [h1] at h2
  exact tok_oneCell _ _ _ _ _ h2
set_option maxRecDepth 100000 in
set_option maxHeartbeats 8000000 in
theorem LexJoins_walk (W : World) (s0 : ByteArray) (ws : s0.size ≤ maxLen) (s1 : ByteArray) (ws1 : s1.size ≤ maxLen) : Calls Try.prog 5 #[.string s0, .string s1] W fun e w' => e = .returned (.bool true) ∧ Below W.heap.size W w' := by
  obtain ⟨a, rfl⟩ := T_of s0
  obtain ⟨b, rfl⟩ := T_of s1
  have hT := T_size a
  have hT1 := T_size b
  by_cases hbig : 4000 < a.length
  · go_enter Try.func5, Try.ntmps5
    go_wp2_with fail
    refine (known16_any _).mono ?_
    rintro e w8 ⟨rfl, b8⟩
    go_wp2_with fail
    go_ret
    exact ⟨rfl, b8⟩
  by_cases hbig2 : 4000 < b.length
  · go_enter Try.func5, Try.ntmps5
    go_wp2_with fail
    refine (known16_any _).mono ?_
    rintro e w8 ⟨rfl, b8⟩
    go_wp2_with fail
    go_ret
    exact ⟨rfl, b8⟩
  have hadd := fun w => run_T_add a [10] (by simp; omega) w
  have hadd2 := fun w => run_T_add (a ++ [10]) b (by simp; omega) w
  rw [show T [10] = (⟨#[10]⟩ : ByteArray) from rfl] at hadd
  have hab : (a ++ [10]) ++ b = a ++ 10 :: b := by simp
  have SA := fun w => Scan_any a w (by omega)
  have SB := fun w => Scan_any b w (by omega)
  have SN := fun w => Scan_any ((a ++ [10]) ++ b) w (by simp; omega)
  rcases Lx.scan_cases (s := a) (by omega) with ⟨ts, h1, h2, h3⟩ | ⟨x, q, h1, h2, h3⟩
  · rcases Lx.scan_cases (s := b) (by omega) with ⟨us, k1, k2, k3⟩ | ⟨y, q', k1, k2, k3⟩
    · obtain ⟨vs, v1, v2⟩ := (Lx.scan_two (by omega) (by omega) h1 k1).1 rfl rfl
      rw [h1] at SA
      rw [k1] at SB
      rw [hab, v1] at SN
      rw [hab] at hadd2
      have hcnt := Lx.same_count v2
      rw [List.length_append] at hcnt
      generalize (a ++ 10 :: b : List UInt8) = ab at *
      have M := fun (w : World) (A A1 : Option Addr) (B B1 c c1 : Nat) (h : RTf w B A vs.length c vs) (h1 : RTf w B1 A1 (ts.length + us.length) c1 (ts ++ us)) => RSameF_any w h h1
      rw [v2] at M
      replace SA := Lib.hid SA; replace SB := Lib.hid SB; replace SN := Lib.hid SN; replace M := Lib.hid M
      clear h1 h2 k1 k2 v1 v2 hab hcnt
      go_enter Try.func5, Try.ntmps5
      go_wp2_with fail
      refine (SA.out _).mono ?_
      rintro e w1 ⟨A1, c1, rfl, o1, b1⟩
      dsimp only at o1
      go_wp2_with fail
      refine (SB.out _).mono ?_
      rintro e w2 ⟨A2, c2, rfl, o2, b2⟩
      dsimp only at o2
      have d2 := below_step b1 b2 (Nat.le_refl _)
      go_wp2_with fail
      refine (SN.out _).mono ?_
      rintro e w3 ⟨A3, c3, rfl, o3, b3⟩
      dsimp only at o3
      have d3 := below_step d2 b3 (Nat.le_refl _)
      have o1' := (o1.below b2).below b3
      have o2' := o2.below b3
      clear o1 o2
      have R1 := o1'.rs
      have R2 := o2'.rs
      obtain ⟨xs, x1, x2⟩ := R1
      obtain ⟨ys, y1, y2⟩ := R2
      have k1 := rows_one x2
      have k2 := rows_one y2
      have hb1 : (0 + ts.length) * 40 ≤ 140737488355328 := by omega
      have hb2 : (ts.length + us.length) * 40 ≤ 140737488355328 := by omega
      have e1 := OV.new (base := w3.heap.size) (e := 29) (size := 4) w3 [] 0 rfl (by omega) (Nat.le_refl _)
      have x1' := x1.alloc (Nat.le_refl _) (.cells #[] 29)
      have ba := alloc_one w3 (.cells #[] 29)
      go_wp2_with (first
        | (at_builtin; refine wpList_app_g ettk (by rfl) (.tmp 101) (.tmp 102) rfl rfl rfl w3.heap.size e1 x1' k1 hb1 (by omega) ba.size ?_; intro A4 c4 w4 e2 g2 _; simp only [Nat.zero_add, List.nil_append] at e2; have b4 := ba.trans (grown_below g2 e1.lt ba.size); have y1' := y1.below b4)
        | (at_builtin; refine wpList_app_g ettk (by rfl) (.tmp 103) (.tmp 104) rfl rfl rfl w3.heap.size e2 y1' k2 hb2 (by omega) b4.size ?_; intro A5 c5 w5 e3 g3 _; have b5 := b4.trans (grown_below g3 e2.lt b4.size)))
      have r5 : RTf w5 w5.heap.size A5 (ts.length + us.length) c5 (ts ++ us) := ⟨_, e3.rv, (x2.append y2).imp fun t cs h => ⟨(t.pl : Int), h⟩⟩
      refine (M.out _ _ _ _ _ _ _ (o3.below b5).rs.rf r5).mono ?_
      rintro e w6 h6
      obtain ⟨rfl, d, rfl⟩ := h6
      have d6 := below_drewN (d3.trans (b5.mono d3.size)) d
      generalize w5.drewN d = w6 at *
      clear e1 e2 e3 x1 y1 r5
      go_wp2_with fail
      refine (known16_any _).mono ?_
      rintro e w8 ⟨rfl, b8⟩
      go_wp2_with fail
      go_ret
      exact ⟨rfl, below_step d6 b8 (Nat.le_refl _)⟩
    · have v1 := (Lx.scan_two (by omega) (by omega) h1 k1).2.1 rfl k2
      rw [h1] at SA
      rw [k1] at SB
      rw [hab, v1] at SN
      rw [hab] at hadd2
      generalize (a ++ 10 :: b : List UInt8) = ab at *
      have hy : (y != 0) = true := by simpa using k2
      have hpl : (((q' + a.length + 1 : Nat) : Int)) = (q' : Int) + (a.length : Int) + 1 := by omega
      rw [show ScanPost ([], y, q' + a.length + 1) = fun w e w' => ScanPost ([], y, q' + a.length + 1) w e w' from rfl] at SN
      replace SA := Lib.hid SA; replace SB := Lib.hid SB; replace SN := Lib.hid SN
      have HPL := Lib.hid hpl
      clear h1 h2 k1 k2 v1 hab hpl
      go_enter Try.func5, Try.ntmps5
      go_wp2_with fail
      refine (SA.out _).mono ?_
      rintro e w1 ⟨A1, c1, rfl, o1, b1⟩
      dsimp only at o1
      go_wp2_with fail
      refine (SB.out _).mono ?_
      rintro e w2 ⟨A2, c2, rfl, o2, b2⟩
      dsimp only at o2
      have d2 := below_step b1 b2 (Nat.le_refl _)
      go_wp2_with fail
      refine (SN.out _).mono ?_
      rintro e w3 ⟨A3, c3, rfl, o3, b3⟩
      have d3 := below_step d2 b3 (Nat.le_refl _)
      dsimp only [List.length_nil]
      rw [HPL.out]
      clear o1 o2 o3
      go_wp2_with fail
      refine (known16_any _).mono ?_
      rintro e w8 ⟨rfl, b8⟩
      go_wp2_with fail
      go_ret
      exact ⟨rfl, below_step d3 b8 (Nat.le_refl _)⟩
  · have hx : (x != 0) = true := by simpa using h2
    have hat := fun w => run_T_at a .i64 (q : Int) q rfl h3 w
    rcases hsb : Lx.scanS b with ⟨us, y, q'⟩
    have v1 := ((Lx.scan_two (by omega) (by omega) h1 hsb).2.2 h2).2
    rw [h1] at SA
    rw [hsb] at SB
    replace SA := Lib.hid SA; replace SB := Lib.hid SB
    by_cases h34 : a.getD q 0 = 34
    · rw [h34] at hat
      clear v1 hab
      generalize Lx.scanS ((a ++ [10]) ++ b) = pn at *
      obtain ⟨vs, z, q2⟩ := pn
      replace SN := Lib.hid SN
      clear h1 h2 hsb h34
      generalize (a ++ [10]) ++ b = ab at *
      go_enter Try.func5, Try.ntmps5
      go_wp2_with fail
      refine (SA.out _).mono ?_
      rintro e w1 ⟨A1, c1, rfl, o1, b1⟩
      dsimp only [List.length_nil] at o1
      go_wp2_with fail
      refine (SB.out _).mono ?_
      rintro e w2 ⟨A2, c2, rfl, o2, b2⟩
      dsimp only at o2
      have d2 := below_step b1 b2 (Nat.le_refl _)
      go_wp2_with fail
      refine (SN.out _).mono ?_
      rintro e w3 ⟨A3, c3, rfl, o3, b3⟩
      have d3 := below_step d2 b3 (Nat.le_refl _)
      clear o1 o2 o3
      go_wp2_with fail
      refine (known16_any _).mono ?_
      rintro e w8 ⟨rfl, b8⟩
      go_wp2_with fail
      go_ret
      exact ⟨rfl, below_step d3 b8 (Nat.le_refl _)⟩
    · rw [hab, v1 h34] at SN
      rw [hab] at hadd2
      replace SN := Lib.hid SN
      have hc1 := byte_ne (k := 34) h34 rfl
      generalize a.getD q 0 = c at *
      generalize (a ++ 10 :: b : List UInt8) = ab at *
      clear h1 h2 hsb h34 v1 hab
      go_enter Try.func5, Try.ntmps5
      go_wp2_with fail
      refine (SA.out _).mono ?_
      rintro e w1 ⟨A1, c1, rfl, o1, b1⟩
      dsimp only [List.length_nil] at o1
      go_wp2_with fail
      refine (SB.out _).mono ?_
      rintro e w2 ⟨A2, c2, rfl, o2, b2⟩
      dsimp only at o2
      have d2 := below_step b1 b2 (Nat.le_refl _)
      go_wp2_with fail
      refine (SN.out _).mono ?_
      rintro e w3 ⟨A3, c3, rfl, o3, b3⟩
      have d3 := below_step d2 b3 (Nat.le_refl _)
      clear o1 o2 o3
      go_wp2_with fail
      refine (known16_any _).mono ?_
      rintro e w8 ⟨rfl, b8⟩
      go_wp2_with fail
      go_ret
      exact ⟨rfl, below_step d3 b8 (Nat.le_refl _)⟩
end Go.Proofs.Ytnppihlalhaldaa
