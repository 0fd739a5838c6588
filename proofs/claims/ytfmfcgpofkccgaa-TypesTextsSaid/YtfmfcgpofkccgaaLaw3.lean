/-
  Walk: TypesTexts.
  Conditions: none.
-/
import Derived.Test.YtfmfcgpofkccgaaKnown
import Derived.Test.YtfmfcgpofkccgaaTypLaws
import Derived.Test.YtfmfcgpofkccgaaTypRParse
import Derived.Test.YtfmfcgpofkccgaaFrame
namespace Go.Proofs.Ytfmfcgpofkccgaa
set_option linter.unusedVariables false
set_option linter.unusedSimpArgs false
open Go.ChangeShapes Go.WideShapes Go.ChangeAt Go.RowKit
theorem enc_len (t n : Int) : (Ty.encS t n).1.length ≤ 8 := by
  cases hok : (Ty.limS t).2.2 with
  | false => rw [enc_type hok]; simp
  | true =>
    by_cases hr : n < (Ty.limS t).1 ∨ (Ty.limS t).2.1 < n
    · rw [enc_range hok hr]; simp
    · rw [enc_ok hok hr]
      dsimp only
      rw [Oct.lb_length]
      rcases lim_ok hok with ⟨_, _, h, _⟩ | ⟨_, _, h, _⟩ <;> omega
theorem parse_len (t : Int) (s : List UInt8) : (Ty.parseS t s).1.length ≤ 256 := by
  rw [parse_val]
  split
  · simp
  · rename_i hnm
    split
    · split
      · simp
      · have := enc_len t (Ty.parN s).1
        omega
    · rename_i hb
      split
      · simp
      · split
        · simp
        · rename_i h2
          have hck : Ty.checkS t 256 (Ty.rawS t s).1 = 0 := by simpa using h2
          exact chk_small hck (by omega)
set_option maxRecDepth 100000 in
set_option maxHeartbeats 8000000 in
theorem TypesTexts_walk {A : Option Addr} {n c : Nat} {l : List UInt8} (W : World) (t : Int) (wt : (Lit.int .i64 t).wf = true) (hb : RB W W.heap.size A n c l) (s0 : ByteArray) (ws : s0.size ≤ maxLen) :
    Calls Try.prog 5 #[.int .i64 t, .slice A n c, .string s0] W fun e w' => e = .returned (.bool true) ∧ Below W.heap.size W w' := by
  obtain ⟨s, rfl⟩ := T_of s0
  have hT := T_size s
  rw [hT] at ws
  have hn := hb.lt
  have HL := Lib.hid hb.len
  by_cases hbig : 10000 < n
  · go_enter Try.func5, Try.ntmps5
    go_wp2_with fail
    refine (known05_any _).mono ?_
    rintro e w2 ⟨rfl, b2⟩
    go_wp2_with fail
    go_ret
    exact ⟨rfl, b2⟩
  by_cases hbig2 : 2000 < s.length
  · go_enter Try.func5, Try.ntmps5
    go_wp2_with fail
    refine (known05_any _).mono ?_
    rintro e w2 ⟨rfl, b2⟩
    go_wp2_with fail
    go_ret
    exact ⟨rfl, b2⟩
  · have L := Lib.hid (Lent_any W hb (by omega) (Nat.le_refl _))
    have C1 := fun (A : Option Addr) (n c B : Nat) (w1 : World) (h : RB w1 B A n c l) (hB : B ≤ w1.heap.size) => Show_anyT t w1 h hB
    have C2 := fun (w1 : World) (h : Below W.heap.size W w1) => RShow_anyT t w1 (hb.below h)
    have P1 := fun w => Parse_anyT t s w (by omega)
    have P2 := fun w => RParse_anyT t s w (by omega)
    have hpl := parse_len t s
    generalize Ty.showS t l = sh at *
    obtain ⟨sv, se⟩ := sh
    generalize Ty.parseS t s = ps at *
    obtain ⟨pv, pe⟩ := ps
    dsimp only at hpl
    replace C1 := Lib.hid C1; replace C2 := Lib.hid C2
    replace P1 := Lib.hid P1; replace P2 := Lib.hid P2
    go_enter Try.func5, Try.ntmps5
    go_wp2_with fail
    refine (L.out).mono ?_
    rintro e w1 ⟨A1, c1, rfl, o1, b1⟩
    have htk : (l ++ [(77 : UInt8)]).take n = l := take_mark HL.out
    have r1 := o1.rb.take (k := n) (by omega)
    rw [htk] at r1
    have C3 := Lib.hid (C1.out _ _ _ _ w1 r1 (Nat.le_refl _))
    clear htk r1
    go_wp2_with fail
    refine (C3.out).mono ?_
    rintro e w2 ⟨rfl, b2⟩
    have d2 := below_step b1 b2 (Nat.le_refl _)
    go_wp2_with fail
    refine (C2.out _ d2).mono ?_
    rintro e w3 ⟨rfl, b3⟩
    have d3 := below_step d2 b3 (Nat.le_refl _)
    go_wp2_with fail
    refine (P1.out _).mono ?_
    rintro e w4 ⟨A4, c4, rfl, o4, b4⟩
    dsimp only at o4
    have d4 := below_step d3 b4 (Nat.le_refl _)
    go_wp2_with fail
    refine (P2.out _).mono ?_
    rintro e w5 ⟨A5, c5, rfl, o5, b5⟩
    dsimp only at o5
    have d5 := below_step d4 b5 (Nat.le_refl _)
    have g4 := o4.below b5
    have e4 := convb g4.rb
    have e5 := convb o5.rb
    have KE := Kept_any _ ((((o1.below b2).below b3).below b4).below b5).rb (hb.below d5)
    have hll : (l == l && (77 : UInt8) == 77) = true := by simp
    rw [hll] at KE
    replace KE := Lib.hid KE
    have O1 := Lib.hid o1; have O4 := Lib.hid o4; have O5 := Lib.hid o5; have G4 := Lib.hid g4
    clear hll o1 o4 o5 g4
    go_wp2_with fail
    refine (KE.out).mono ?_
    rintro e _ ⟨rfl, rfl⟩
    go_wp2_with fail
    clear e4 e5
    have z5 : w3.heap.size ≤ w5.heap.size := Nat.le_trans b4.size b5.size
    refine (Spoil_any _ G4.out (by omega) z5).mono ?_
    rintro e w6 ⟨rfl, b6, hg6⟩
    have g5 := O5.out.kept hg6 (own_apart (fun k hk => (O4.out.lt k hk).2) (fun k hk => (O5.out.lt k hk).1))
    have d6 := d5.trans (b6.mono d3.size)
    clear hg6
    have G5 := Lib.hid g5
    clear g5
    go_wp2_with fail
    refine (P1.out _).mono ?_
    rintro e w7 ⟨A7, c7, rfl, o7, b7⟩
    dsimp only at o7
    have d7 := below_step d6 b7 (Nat.le_refl _)
    have e7 := convb o7.rb
    have e5 := convb (G5.out.below b7).rb
    clear o7
    go_wp2_with fail
    refine (known05_any _).mono ?_
    rintro e w8 ⟨rfl, b8⟩
    go_wp2_with fail
    go_ret
    exact ⟨rfl, below_step d7 b8 (Nat.le_refl _)⟩
end Go.Proofs.Ytfmfcgpofkccgaa
