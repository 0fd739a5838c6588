/-
  Walks: the kinds of signs of package lex and of its reference; head.
  Conditions: none.
-/
import Derived.Test.YtnppihlalhaldaaLexPure
import Derived.Test.YtnppihlalhaldaaText
import Derived.Test.YtnppihlalhaldaaMem
import Derived.Laws.RangeString
import Derived.Lib.OthersKept
import Derived.Lib.TrimU
import Derived.Lib.MapLaws
namespace Go.Proofs.Ytnppihlalhaldaa
set_option linter.unusedVariables false
set_option linter.unusedSimpArgs false
open Go.RowKit
namespace Lx
def rL (x : Nat) : Bool := decide (97 ≤ x ∧ x ≤ 122)
def rD (x : Nat) : Bool := decide (48 ≤ x ∧ x ≤ 57)
def rH (x : Nat) : Bool := rD x || decide (97 ≤ x ∧ x ≤ 102)
def rW (x : Nat) : Bool := rL x || rD x || x == 95
def rB (x : Nat) : Bool := x == 32 || x == 9 || x == 10 || x == 13
def rN (x : Nat) : Bool := x != 10
theorem byte_beq (c d : UInt8) : (c == d) = (c.toNat == d.toNat) := by
  rw [Bool.eq_iff_iff, beq_iff_eq, beq_iff_eq, UInt8.toNat_inj]
theorem isL_r (c : UInt8) : isL c = rL c.toNat := rfl
theorem isD_r (c : UInt8) : Ty.isD c = rD c.toNat := rfl
theorem isH_r (c : UInt8) : isH c = rH c.toNat := rfl
theorem inW_r (c : UInt8) : inW c = rW c.toNat := by unfold inW rW; rw [byte_beq]; rfl
theorem blank_r (c : UInt8) : blank c = rB c.toNat := by unfold blank rB; rw [byte_beq, byte_beq, byte_beq, byte_beq]; rfl
theorem line_r (c : UInt8) : line c = rN c.toNat := by unfold line rN; rw [bne, byte_beq]; rfl
end Lx
theorem rune_letter (x : Nat) (w : World) (hx : x ≤ 1114111) : Calls Try.prog 22 #[.int .i32 (x : Int)] w fun e w' => e = .returned (.bool (Lx.rL x)) ∧ w' = w := by
  by_cases h1 : 97 ≤ x
  all_goals
    go_enter Try.func22, Try.ntmps22
    go_wp2_with fail
    go_ret
    exact ⟨ret_bool (by rw [Bool.eq_iff_iff]; simp [Lx.rL] <;> omega), rfl⟩
theorem rune_digit (x : Nat) (w : World) (hx : x ≤ 1114111) : Calls Try.prog 27 #[.int .i32 (x : Int)] w fun e w' => e = .returned (.bool (Lx.rD x)) ∧ w' = w := by
  by_cases h1 : 48 ≤ x
  all_goals
    go_enter Try.func27, Try.ntmps27
    go_wp2_with fail
    go_ret
    exact ⟨ret_bool (by rw [Bool.eq_iff_iff]; simp [Lx.rD] <;> omega), rfl⟩
theorem rune_hex (x : Nat) (w : World) (hx : x ≤ 1114111) : Calls Try.prog 25 #[.int .i32 (x : Int)] w fun e w' => e = .returned (.bool (Lx.rH x)) ∧ w' = w := by
  have D := rune_digit x w hx
  generalize hd : Lx.rD x = d at *
  replace D := Lib.hid D
  have HD := Lib.hid hd; clear hd
  by_cases h1 : 97 ≤ x <;> cases d
  all_goals
    go_enter Try.func25, Try.ntmps25
    go_wp2_with fail
    refine (D.out).mono ?_
    rintro e _ ⟨rfl, rfl⟩
    go_wp2_with fail
    go_ret
    exact ⟨ret_bool (by rw [Bool.eq_iff_iff]; simp [Lx.rH, HD.out] <;> omega), rfl⟩
theorem rune_inner (x : Nat) (w : World) (hx : x ≤ 1114111) : Calls Try.prog 23 #[.int .i32 (x : Int)] w fun e w' => e = .returned (.bool (Lx.rW x)) ∧ w' = w := by
  have L := rune_letter x w hx
  have D := rune_digit x w hx
  generalize hd : Lx.rD x = d at *
  generalize hl : Lx.rL x = l at *
  replace D := Lib.hid D; replace L := Lib.hid L
  have HD := Lib.hid hd; clear hd
  have HL := Lib.hid hl; clear hl
  cases l
  · cases d
    all_goals
      go_enter Try.func23, Try.ntmps23
      go_wp2_with fail
      refine (L.out).mono ?_
      rintro e _ ⟨rfl, rfl⟩
      go_wp2_with fail
      refine (D.out).mono ?_
      rintro e _ ⟨rfl, rfl⟩
      go_wp2_with fail
      go_ret
      exact ⟨ret_bool (by rw [Bool.eq_iff_iff]; simp [Lx.rW, HD.out, HL.out] <;> omega), rfl⟩
  · go_enter Try.func23, Try.ntmps23
    go_wp2_with fail
    refine (L.out).mono ?_
    rintro e _ ⟨rfl, rfl⟩
    go_wp2_with fail
    go_ret
    exact ⟨ret_bool (by simp [Lx.rW, HL.out]), rfl⟩
theorem lblank_any (x : Nat) (w : World) (hx : x ≤ 1114111) : Calls Try.prog 20 #[.int .i32 (x : Int)] w fun e w' => e = .returned (.bool (Lx.rB x)) ∧ w' = w := by
  by_cases h1 : x = 32
  · subst h1
    go_enter Try.func20, Try.ntmps20
    go_wp2_with fail
    go_ret
    exact ⟨rfl, rfl⟩
  by_cases h2 : x = 9
  · subst h2
    go_enter Try.func20, Try.ntmps20
    go_wp2_with fail
    go_ret
    exact ⟨rfl, rfl⟩
  by_cases h3 : x = 10
  · subst h3
    go_enter Try.func20, Try.ntmps20
    go_wp2_with fail
    go_ret
    exact ⟨rfl, rfl⟩
  · have e1 : ((x : Int) == 32) = false := by rw [beq_eq_false_iff_ne]; omega
    have e2 : ((x : Int) == 9) = false := by rw [beq_eq_false_iff_ne]; omega
    have e3 : ((x : Int) == 10) = false := by rw [beq_eq_false_iff_ne]; omega
    go_enter Try.func20, Try.ntmps20
    go_wp2_with fail
    go_ret
    exact ⟨ret_bool (by rw [Bool.eq_iff_iff]; simp [Lx.rB, h1, h2, h3] <;> omega), rfl⟩
theorem inline_any (x : Nat) (w : World) (hx : x ≤ 1114111) : Calls Try.prog 21 #[.int .i32 (x : Int)] w fun e w' => e = .returned (.bool (Lx.rN x)) ∧ w' = w := by
  go_enter Try.func21, Try.ntmps21
  go_wp2_with fail
  go_ret
  exact ⟨ret_bool (by rw [Bool.eq_iff_iff]; simp [Lx.rN] <;> omega), rfl⟩
end Go.Proofs.Ytnppihlalhaldaa
