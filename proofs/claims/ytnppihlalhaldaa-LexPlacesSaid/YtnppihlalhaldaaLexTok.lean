/-
  Walks: quoted, hexed, number of package lex.
  Conditions: none.
-/
import Derived.Test.YtnppihlalhaldaaLexPass
import Derived.Test.YtnppihlalhaldaaBlk
namespace Go.Proofs.Ytnppihlalhaldaa
set_option linter.unusedVariables false
set_option linter.unusedSimpArgs false
open Go.RowKit
def tkV (k : Int) (s : List UInt8) (n p : Int) : Value := .agg #[.int .i64 k, .string (T s), .int .i64 n, .int .i64 p]
def tk0C : Array Value := #[.int .i64 0, .string ⟨#[]⟩, .int .i64 0, .int .i64 0]
/-- A token, and whether it is one. -/
def FPost (v : Value) (b : Bool) (w : World) (e : Ending) (w' : World) : Prop := e = .returned (.tuple #[v, .bool b]) ∧ Below w.heap.size w w'
theorem below_set4 {B g : Nat} {w w' : World} (h : Below B w w') (hg : B ≤ g) (i j k l : Nat) (a b c d : Value) : Below B w ((((w'.setCell ⟨g, i, none⟩ a).setCell ⟨g, j, none⟩ b).setCell ⟨g, k, none⟩ c).setCell ⟨g, l, none⟩ d) :=
  (below_set3 h hg i j k a b c).setCell (p := ⟨g, l, none⟩) hg d
def quoV (s : List UInt8) : Value := match Lx.qlen false s.tail with | some k => tkV 4 (s.take (k + 1)) 0 0 | none => tkV 0 [] 0 0
theorem quo_more {r : List UInt8} {m m' : Bool} {k k' : Nat} {l l' : List UInt8} (h : Lx.qlen false r = (Lx.qlen m l).map (· + k)) (e : Lx.qlen m l = (Lx.qlen m' l').map (· + 1)) (hk : k' = k + 1) : Lx.qlen false r = (Lx.qlen m' l').map (· + k') := by
  rw [h, e, Option.map_map]
  congr 1
  funext x
  simp only [Function.comp]
  omega
set_option maxRecDepth 100000 in
set_option maxHeartbeats 2000000 in
theorem quoted_any (s : List UInt8) (w : World) (h1 : 1 ≤ s.length) (hs : s.length ≤ 1000000) :
    Calls Try.prog 29 #[.string (T s)] w (FPost (quoV s) (Lx.qlen false s.tail).isSome w) := by
  have hT := T_size s
  have b0 := alloc_one w (.cells tk0C 29)
  have K0 := Blk.new w 29 tk0C
  unfold tk0C at b0 K0
  have F0 := K0.four
  go_enter Try.func29, Try.ntmps29
  go_wp2_with fail
  go_loopw [4, 5] (fun m v wr => ∃ (b : Bool) (j : Nat), 1 ≤ j ∧ j ≤ s.length ∧ m = .bool b ∧ v = .int .i64 j ∧ wr = w.alloc (.cells #[.int .i64 0, .string ⟨#[]⟩, .int .i64 0, .int .i64 0] 29) ∧ Hid (Lx.qlen false s.tail = (Lx.qlen b (s.drop j)).map (· + (j - 1)))) (fun _ v _ => s.length - (intOf v).toNat)
  case atStart => exact ⟨false, 1, by omega, by omega, rfl, rfl, rfl, Lib.hid (by rw [List.drop_one]; simp)⟩
  case round =>
    obtain ⟨b, j, hj1, hj, rfl, rfl, rfl, hq⟩ := hrel
    by_cases hlt : j < s.length
    · have hd : s.drop j = s.getD j 0 :: s.drop (j + 1) := by
        rw [List.drop_eq_getElem_cons hlt, List.getD_eq_getElem?_getD, List.getElem?_eq_getElem hlt]
        rfl
      have hat := fun w => run_T_at s .i64 j j rfl hlt w
      have hq' := hq.out
      rw [hd] at hq'
      generalize s.getD j 0 = c at *
      cases b with
      | true =>
        have HQ := Lib.hid (quo_more hq' (m' := false) (l' := s.drop (j + 1)) (k' := j + 1 - 1) rfl (by omega))
        clear hq' hd
        go_wp2_with fail
        go_roundw
        case rel => exact ⟨false, j + 1, by omega, by omega, rfl, by go_num, (by first | rfl | trivial), HQ⟩
        case measure => simp [intOf] <;> omega
      | false =>
        by_cases hc : c = 92
        · subst hc
          have HQ := Lib.hid (quo_more hq' (m' := true) (l' := s.drop (j + 1)) (k' := j + 1 - 1) rfl (by omega))
          clear hq' hd
          go_wp2_with fail
          go_roundw
          case rel => exact ⟨true, j + 1, by omega, by omega, rfl, by go_num, (by first | rfl | trivial), HQ⟩
          case measure => simp [intOf] <;> omega
        · have hc1 := byte_ne (k := 92) hc rfl
          by_cases hc2 : c = 34
          · subst hc2
            have hcut := fun w => run_T_head s .i64 ((j : Int) + 1) (j + 1) (by omega) (by omega) w
            have hv : quoV s = tkV 4 (s.take (j + 1)) 0 0 ∧ (Lx.qlen false s.tail).isSome = true := by
              rw [Lx.qlen, if_neg (by decide), if_pos rfl] at hq'
              unfold quoV
              rw [hq']
              simp only [Option.map_some, Option.isSome_some, and_true]
              rw [show 1 + (j - 1) + 1 = j + 1 by omega]
            have HV := Lib.hid hv
            clear hq' hd hv hc hc1
            go_wp2_with fail
            exact bodyPost_ret (v := .tuple #[tkV 4 (s.take (j + 1)) 0 0, .bool true]) (by simp [results, Try.results29, go_sem, tkV, show T [] = (⟨#[]⟩ : ByteArray) from rfl]) rfl ⟨by rw [HV.out.1, HV.out.2], alloc_one _ _⟩
          · have hc3 := byte_ne (k := 34) hc2 rfl
            have HQ := Lib.hid (quo_more hq' (m' := false) (l' := s.drop (j + 1)) (k' := j + 1 - 1) (by rw [Lx.qlen, if_neg hc, if_neg hc2]) (by omega))
            clear hq' hd hc hc2
            go_wp2_with fail
            go_roundw
            case rel => exact ⟨false, j + 1, by omega, by omega, rfl, by go_num, (by first | rfl | trivial), HQ⟩
            case measure => simp [intOf] <;> omega
    · obtain rfl : j = s.length := by omega
      have hv : quoV s = tkV 0 [] 0 0 ∧ (Lx.qlen false s.tail).isSome = false := by
        have hq' := hq.out
        rw [List.drop_length, show Lx.qlen b [] = none by cases b <;> rfl] at hq'
        unfold quoV
        rw [hq']
        exact ⟨rfl, rfl⟩
      have HV := Lib.hid hv
      clear hv
      go_wp2_with fail
      exact bodyPost_ret (v := .tuple #[tkV 0 [] 0 0, .bool false]) (by simp [results, Try.results29, go_sem, tkV, show T [] = (⟨#[]⟩ : ByteArray) from rfl]) rfl ⟨by rw [HV.out.1, HV.out.2], alloc_one _ _⟩
end Go.Proofs.Ytnppihlalhaldaa
