/-
  Walk: MappingWords.
  Conditions: none.
-/
import Derived.Test.YtoplpmfdgaabfaaJ04
import Derived.Test.YtoplpmfdgaabfaaJ15
import Derived.Test.YtoplpmfdgaabfaaJ16
namespace Go.Proofs.Ytoplpmfdgaabfaa
set_option linter.unusedVariables false
set_option linter.unusedSimpArgs false
open Go.ChangeShapes Go.WideShapes Go.ChangeAt Go.RowKit
theorem join_split {v : Nat} (hv : v < 4294967296) : Mp.joinS (Mp.ix v) (Mp.sb v) (Mp.bt v) = ((v : Int), 0) := by
  unfold Mp.joinS Mp.ix Mp.sb Mp.bt
  rw [if_neg (by omega)]
  congr 1
  omega
theorem split_join {a b c : Int} (h : (Mp.joinS a b c).2 = 0) : ∃ n : Nat, (Mp.joinS a b c).1 = (n : Int) ∧ n < 4294967296 ∧ (Mp.ix n : Int) = a ∧ (Mp.sb n : Int) = b ∧ (Mp.bt n : Int) = c := by
  unfold Mp.joinS at *
  split at h
  · simp at h
  · rename_i hc
    rw [if_neg hc]
    refine ⟨(65536 * a + 256 * b + c).toNat, by dsimp only; omega, by omega, ?_, ?_, ?_⟩
    · unfold Mp.ix; omega
    · unfold Mp.sb; omega
    · unfold Mp.bt; omega
set_option maxRecDepth 100000 in
set_option maxHeartbeats 4000000 in
theorem MappingWords_walk (W : World) (v0 : Int) (w0 : (Lit.int .u32 v0).wf = true) (a b c : Int) (wa : (Lit.int .i64 a).wf = true) (wb : (Lit.int .i64 b).wf = true) (wc : (Lit.int .i64 c).wf = true) :
    Calls Try.prog 3 #[.int .u32 v0, .agg #[.int .i64 a, .int .i64 b, .int .i64 c]] W fun e W' => e = .returned (.bool true) ∧ Below W.heap.size W W' := by
  obtain ⟨p1, p2⟩ := bounds_u32 w0
  obtain ⟨v, rfl⟩ := Int.eq_ofNat_of_zero_le p1
  have hv : v < 4294967296 := by omega
  have b0 := alloc_one W (.cells #[.int .i64 a, .int .i64 b, .int .i64 c] 23)
  have K := Blk.new W 23 #[.int .i64 a, .int .i64 b, .int .i64 c]
  have T0 := K.three
  have S1 := Lib.hid (fun w => MSplit_any v hv w)
  have S2 := Lib.hid (fun w => RMSplit_any v hv w)
  have J1 := fun w => Join30_any a b c w
  have J2 := fun w => RJoin30_any a b c w
  have J3 := fun w => Join30_any (Mp.ix v) (Mp.sb v) (Mp.bt v) w
  rw [join_split hv] at J3
  dsimp only at J3
  have hsj := split_join (a := a) (b := b) (c := c)
  generalize Mp.joinS a b c = jj at *
  obtain ⟨jv, je⟩ := jj
  dsimp only at J1 J2 hsj
  have g1 : ((Mp.ix v : Int) != (Mp.ix v : Int)) = false := by simp
  have g2 : ((Mp.sb v : Int) != (Mp.sb v : Int)) = false := by simp
  have g3 : ((Mp.bt v : Int) != (Mp.bt v : Int)) = false := by simp
  have g4 : ((v : Int) != (v : Int)) = false := by simp
  generalize (Mp.ix v : Int) = x1 at *
  generalize (Mp.sb v : Int) = x2 at *
  generalize (Mp.bt v : Int) = x3 at *
  replace J3 := Lib.hid J3
  by_cases hje : je = 0
  · subst hje
    obtain ⟨n, h1, h2, h3, h4, h5⟩ := hsj rfl
    subst h1
    have S3 := fun w => MSplit_any n h2 w
    rw [h3, h4, h5] at S3
    have g5 : ((n : Int) != (n : Int)) = false := by simp
    have g6 : (a == a) = true := by simp
    have g7 : (b == b) = true := by simp
    have g8 : (c == c) = true := by simp
    replace J1 := Lib.hid J1; replace J2 := Lib.hid J2; replace S3 := Lib.hid S3
    clear hsj h3 h4 h5
    go_enter Try.func3, Try.ntmps3
    go_wp2_with fail
    refine (S1.out _).mono ?_
    rintro e _ ⟨rfl, rfl⟩
    go_wp2_with fail
    refine (S2.out _).mono ?_
    rintro e _ ⟨rfl, rfl⟩
    go_wp2_with fail
    refine (J1.out _).mono ?_
    rintro e _ ⟨rfl, rfl⟩
    go_wp2_with fail
    refine (J2.out _).mono ?_
    rintro e _ ⟨rfl, rfl⟩
    go_wp2_with fail
    refine (J3.out _).mono ?_
    rintro e _ ⟨rfl, rfl⟩
    go_wp2_with fail
    refine (S3.out _).mono ?_
    rintro e _ ⟨rfl, rfl⟩
    go_wp2_with fail
    refine (known30_any _).mono ?_
    rintro e w5 ⟨rfl, b5⟩
    go_wp2_with fail
    go_ret
    exact ⟨rfl, below_step b0 b5 (Nat.le_refl _)⟩
  · have g5 : (jv != jv) = false := by simp
    have g6 : (je != je) = false := by simp
    have g7 : (je == 0) = false := by simpa using hje
    replace J1 := Lib.hid J1; replace J2 := Lib.hid J2; replace hje := Lib.hid hje
    clear hsj
    go_enter Try.func3, Try.ntmps3
    go_wp2_with fail
    refine (S1.out _).mono ?_
    rintro e _ ⟨rfl, rfl⟩
    go_wp2_with fail
    refine (S2.out _).mono ?_
    rintro e _ ⟨rfl, rfl⟩
    go_wp2_with fail
    refine (J1.out _).mono ?_
    rintro e _ ⟨rfl, rfl⟩
    go_wp2_with fail
    refine (J2.out _).mono ?_
    rintro e _ ⟨rfl, rfl⟩
    go_wp2_with fail
    refine (J3.out _).mono ?_
    rintro e _ ⟨rfl, rfl⟩
    go_wp2_with fail
    refine (known30_any _).mono ?_
    rintro e w5 ⟨rfl, b5⟩
    go_wp2_with fail
    go_ret
    exact ⟨rfl, below_step b0 b5 (Nat.le_refl _)⟩
end Go.Proofs.Ytoplpmfdgaabfaa
