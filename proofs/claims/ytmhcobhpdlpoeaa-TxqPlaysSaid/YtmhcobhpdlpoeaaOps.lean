/-
  A script of operations in memory; 'light' of the statements of layer 12.
  Conditions: none.
-/
import Derived.Test.YtmhcobhpdlpoeaaFrmFoot
import Derived.Test.YtmhcobhpdlpoeaaFrm
namespace Go.Proofs.Ytmhcobhpdlpoeaa
set_option linter.unusedVariables false
set_option linter.unusedSimpArgs false
open Go.ChangeShapes Go.WideShapes Go.ChangeAt Go.RowKit
structure Tq where
  kind : Int
  f : Can.Fr
def Tq.zero : Tq := ⟨0, Can.zero⟩
def OpC (w : World) (B : Nat) (q : Tq) (cs : List Value) : Prop := ∃ A n c, cs = [.int .i64 q.kind, .int .i64 q.f.id, .bool q.f.rem, .slice A n c] ∧ RB w B A n c q.f.data
theorem OpC.keep {w w' : World} {B : Nat} {f : Tq} {cs : List Value} (h : OpC w B f cs) (hk : ∀ p : Addr, p.block < B → w'.cell? p = w.cell? p) : OpC w' B f cs := by
  obtain ⟨A, n, c, h1, h2⟩ := h
  exact ⟨A, n, c, h1, h2.keep hk⟩
def ROps (w : World) (B : Nat) (A : Option Addr) (n c : Nat) (l : List Tq) : Prop := ∃ xs, RV w B 4 A n c xs ∧ Rows (OpC w B) 4 l xs
section
variable {w w' : World} {B n c : Nat} {A : Option Addr} {l : List Tq}
theorem ROps.len (h : ROps w B A n c l) : l.length = n := by
  obtain ⟨xs, h1, h2⟩ := h
  have := h1.len
  have := h2.len
  omega
theorem ROps.lt (h : ROps w B A n c l) : n ≤ 9223372036854775807 := by
  obtain ⟨xs, h1, h2⟩ := h
  exact Nat.le_trans h1.le h1.cap
theorem ROps.below (h : ROps w B A n c l) (hb : Below B w w') : ROps w' B A n c l := by
  obtain ⟨xs, h1, h2⟩ := h
  exact ⟨xs, h1.below hb, h2.imp fun _ _ hr => hr.keep fun _ hp => hb.cell hp⟩
theorem ROps.at_ (h : ROps w B A n c l) {i : Nat} (hi : i < n) : ∃ b o A' n' c', A = some ⟨b, o, none⟩ ∧ b < B ∧ w.cell? ⟨b, o + i * 4, none⟩ = some (.int .i64 (l.getD i Tq.zero).kind) ∧ w.cell? ⟨b, o + i * 4 + 1, none⟩ = some (.int .i64 (l.getD i Tq.zero).f.id) ∧
    w.cell? ⟨b, o + i * 4 + 2, none⟩ = some (.bool (l.getD i Tq.zero).f.rem) ∧ w.cell? ⟨b, o + i * 4 + 3, none⟩ = some (.slice A' n' c') ∧ RB w B A' n' c' (l.getD i Tq.zero).f.data := by
  have hl := h.len
  obtain ⟨xs, h1, h2⟩ := h
  obtain ⟨b, o, rfl, hb, hc⟩ := h1.at_ (by omega)
  have hf : l[i]? = some (l.getD i Tq.zero) := by simp [List.getD, List.getElem?_eq_getElem (show i < l.length by omega)]
  obtain ⟨A', n', c', e, hr⟩ := h2.2 i _ hf
  have e0 : ∀ j, ((xs.drop (i * 4)).take 4)[j]? = if j < 4 then xs[i * 4 + j]? else none := fun j => by rw [List.getElem?_take, List.getElem?_drop]
  rw [e] at e0
  refine ⟨b, o, A', n', c', rfl, hb, ?_, ?_, ?_, ?_, hr⟩
  · exact hc (i * 4) _ (by have := e0 0; simpa using this.symm)
  · have := hc (i * 4 + 1) _ (by have := e0 1; simpa using this.symm)
    rw [← Nat.add_assoc] at this
    exact this
  · have := hc (i * 4 + 2) _ (by have := e0 2; simpa using this.symm)
    rw [← Nat.add_assoc] at this
    exact this
  · have := hc (i * 4 + 3) _ (by have := e0 3; simpa using this.symm)
    rw [← Nat.add_assoc] at this
    exact this
end
section
variable {H : Type} {enc : TypeId × Value → H} {w : World} {spare : Nat → Bool} {held : Bool}
theorem cells_op {fuel : Nat} {cs : List Value} {x : DataW H × List MemPlace} (h : DataW.trod enc Try.prog w 0 spare held fuel 41 cs = some x) : ∃ f, OpC w w.heap.size f cs := by
  have h4 : cs.length = 4 := trod_len Try.underlying41 h (by kernel_rfl)
  match cs, h4 with
  | [a, b, d, e], _ =>
    obtain ⟨_, _, t0⟩ := trod_one Try.underlying41 h 0 3 0 a rfl (by kernel_rfl) rfl
    obtain ⟨_, _, t1⟩ := trod_part Try.underlying41 h 1 29 1 3 rfl (by kernel_rfl)
    obtain ⟨z, rfl, hw⟩ := cell_int Try.underlying3 t0
    obtain ⟨f, ⟨A, n, c, e1, hr⟩, _⟩ := cells_frame t1
    simp only [List.drop_succ_cons, List.drop_zero, List.take_succ_cons, List.take_zero, List.cons.injEq, and_true] at e1
    obtain ⟨rfl, rfl, rfl⟩ := e1
    exact ⟨⟨z, f⟩, A, n, c, rfl, hr⟩
theorem open_txops {r : Reach} {b0 : Nat} {v : Value} {d : DataW H} {p : List MemPlace} (hv : Value.okWide Try.prog w r b0 38 v) (h : DataW.Trod enc Try.prog w 0 spare held 38 v d p) :
    ∃ (A : Option Addr) (n c : Nat) (l : List Tq), v = .slice A n c ∧ ROps w w.heap.size A n c l := by
  obtain ⟨A, n, c, rfl⟩ := okWide_slice Try.underlying38 hv
  obtain ⟨fuel, hf⟩ := h
  obtain ⟨fs, xs, hl, h1, h2⟩ := open_rows (OpC w w.heap.size) Try.underlying38 (show Try.prog.cellsOf 41 = 4 by kernel_rfl) (by decide) (fun _ _ _ h => cells_op h) hf
  exact ⟨A, n, c, fs, rfl, xs, h1, h2⟩
end
def LightPost (n : Nat) (l : List Tq) (w : World) (e : Ending) (w' : World) : Prop := ∃ b : Bool, e = .returned (.bool b) ∧ w = w' ∧ (b = true → ∀ i, i < n → i < 80 → (l.getD i Tq.zero).f.data.length ≤ 1000)
theorem light_no {n : Nat} {l : List Tq} {w : World} : LightPost n l w (.returned (.bool false)) w := ⟨false, rfl, rfl, fun h => by cases h⟩
theorem light_yes {n : Nat} {l : List Tq} {w : World} (h : ∀ i, i < n → i < 80 → (l.getD i Tq.zero).f.data.length ≤ 1000) : LightPost n l w (.returned (.bool true)) w := ⟨true, rfl, rfl, fun _ => h⟩
set_option maxRecDepth 100000 in
set_option maxHeartbeats 1000000 in
theorem light_any {A : Option Addr} {n c B : Nat} {l : List Tq} (w : World) (h : ROps w B A n c l) :
    Calls Try.prog 14 #[.slice A n c] w (LightPost n l w) := by
  have hn := h.lt
  go_enter Try.func14, Try.ntmps14
  go_wp2_with fail
  go_loop [3] (fun i => ∃ k : Nat, k ≤ n ∧ k ≤ 80 ∧ i = .int .i64 k ∧ ∀ j, j < k → (l.getD j Tq.zero).f.data.length ≤ 1000) (fun i => n - (intOf i).toNat)
  case atStart => exact ⟨0, by omega, by omega, rfl, fun _ h => absurd h (by omega)⟩
  case round =>
    obtain ⟨k, hk, hk2, rfl, hall⟩ := hrel
    have HALL := Lib.hid hall; clear hall
    by_cases hlt : k < n
    · by_cases h80 : k < 80
      · obtain ⟨b, o, A1, n1, c1, rfl, hbB, q0, q1, q2, q3, hr⟩ := h.at_ hlt
        clear q0 q1 q2
        by_cases hbig : 1000 < n1
        · go_wp2_with fail
          go_ret
          exact light_no
        · have hrl := hr.len
          have HRL := Lib.hid hrl; clear hrl hr
          go_wp2_with fail
          go_round
          case rel =>
            refine ⟨k + 1, by omega, by omega, by go_num, fun j hj => ?_⟩
            rcases Nat.lt_or_ge j k with h | h
            · exact HALL.out j h
            · obtain rfl : j = k := by omega
              rw [HRL.out]; omega
          case measure => simp [intOf] <;> omega
      · obtain rfl : k = 80 := by omega
        go_wp2_with fail
        go_ret
        exact light_yes fun i _ hi => HALL.out i hi
    · obtain rfl : k = n := by omega
      go_wp2_with fail
      go_ret
      exact light_yes fun i hi _ => HALL.out i hi
end Go.Proofs.Ytmhcobhpdlpoeaa
