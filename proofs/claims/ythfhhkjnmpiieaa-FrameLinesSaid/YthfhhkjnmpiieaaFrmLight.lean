/-
  Walk: light, of the statements of layer 10.
  Conditions: none.
-/
import Derived.Test.YthfhhkjnmpiieaaFrmLines
namespace Go.Proofs.Ythfhhkjnmpiieaa
set_option linter.unusedVariables false
set_option linter.unusedSimpArgs false
open Go.RowKit
def LightPost (n : Nat) (fs : List Can.Fr) (w : World) (e : Ending) (w' : World) : Prop := ∃ b : Bool, e = .returned (.bool b) ∧ w = w' ∧ (b = true → n ≤ 200 ∧ ∀ i, i < n → (fs.getD i Can.zero).data.length ≤ 1000)
theorem light_no {n : Nat} {fs : List Can.Fr} {w : World} : LightPost n fs w (.returned (.bool false)) w := ⟨false, rfl, rfl, fun h => by cases h⟩
theorem light_yes {n : Nat} {fs : List Can.Fr} {w : World} (h : n ≤ 200 ∧ ∀ i, i < n → (fs.getD i Can.zero).data.length ≤ 1000) : LightPost n fs w (.returned (.bool true)) w := ⟨true, rfl, rfl, fun _ => h⟩
set_option maxRecDepth 100000 in
set_option maxHeartbeats 1000000 in
theorem light_any {A : Option Addr} {n c B : Nat} {fs : List Can.Fr} (w : World) (h : RF w B A n c fs) :
    Calls Try.prog 21 #[.slice A n c] w (LightPost n fs w) := by
  have hn := h.lt
  go_enter Try.func21, Try.ntmps21
  go_wp2_with fail
  go_loop [3] (fun i => ∃ k : Nat, k ≤ n ∧ k ≤ 200 ∧ i = .int .i64 k ∧ ∀ j, j < k → (fs.getD j Can.zero).data.length ≤ 1000) (fun i => n - (intOf i).toNat)
  case atStart => exact ⟨0, by omega, by omega, rfl, fun _ h => absurd h (by omega)⟩
  case round =>
    obtain ⟨k, hk, hk2, rfl, hall⟩ := hrel
    have HALL := Lib.hid hall; clear hall
    by_cases hlt : k < n
    · obtain ⟨b, o, A1, n1, c1, rfl, hbB, q0, q1, q2, hr⟩ := h.at_ hlt
      clear q0 q1
      by_cases h200 : k = 200
      · subst h200
        go_wp2_with fail
        go_ret
        exact light_no
      · have hk3 : k < 200 := by omega
        clear h200
        by_cases hbig : 1000 < n1
        · go_wp2_with fail
          go_ret
          exact light_no
        · have hrl := hr.len
          have HRL := Lib.hid hrl; clear hrl hr
          go_wp2_with fail
          go_round
          case rel =>
            refine ⟨k + 1, by omega, by omega, by go_num, fun j hj => ?_⟩
            rcases Nat.lt_or_ge j k with h | h
            · exact HALL.out j h
            · obtain rfl : j = k := by omega
              rw [HRL.out]; omega
          case measure => simp [intOf] <;> omega
    · obtain rfl : k = n := by omega
      go_wp2_with fail
      go_ret
      exact light_yes ⟨hk2, HALL.out⟩
end Go.Proofs.Ythfhhkjnmpiieaa
