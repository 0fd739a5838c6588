/-
  The row's frame: what an argument that reads as bytes is in memory.
  Conditions: none.
-/
import Derived.Test.YtnppihlalhaldaaMem
import Derived.ProofKit
import Derived.OpenShut
import Derived.ShutString
import Derived.ChangeOld
namespace Go.Proofs.Ytnppihlalhaldaa
set_option linter.unusedVariables false
set_option linter.unusedSimpArgs false
open Go.ChangeShapes Go.WideShapes Go.ChangeAt Go.RowKit
theorem wf_u8 {n : Int} (h : (Lit.int .u8 n).wf = true) : 0 ≤ n ∧ n ≤ 255 := bounds_u8 h
section
variable {H : Type} {enc : TypeId × Value → H} {P : Program} {w : World} {spare : Nat → Bool} {held : Bool}
/-- An argument '[]byte'. -/
theorem open_bytes {t e : TypeId} {A : Option Addr} {n c : Nat} {x : DataW H × List MemPlace} {fuel : Nat} (ht : P.underlying t = some (.slice e)) (he : P.underlying e = some (.int .u8)) (hc : P.cellsOf e = 1)
    (h : DataW.trod enc P w 0 spare held fuel t [.slice A n c] = some x) : ∃ l, RB w w.heap.size A n c l := by
  rcases open_ints ht he hc h with ⟨hcs, _⟩ | ⟨a, len, cap, zs, hcs, _, hl, hm, hz, _, hcell, hwz⟩
  · simp at hcs
    obtain ⟨rfl, rfl, rfl⟩ := hcs
    exact ⟨[], RB.none_⟩
  · simp at hcs
    obtain ⟨rfl, rfl, rfl⟩ := hcs
    have hzl : n ≤ zs.length := by rw [hz]; split <;> omega
    refine ⟨(zs.take n).map fun z => UInt8.ofNat z.toNat, by simp; omega, hl, by simpa [maxLen] using hm, (fun e => by cases e), fun hn => ?_⟩
    obtain ⟨b, off, spot⟩ := a
    have h0 := hcell 0 (by omega)
    have hspot : spot = none := by simpa [Addr.add] using World.cell?_spot h0
    subst hspot
    refine ⟨b, off, rfl, ?_, fun i hi => ?_⟩
    · have := World.block_lt_of_cell? w _ h0
      simpa [Addr.add_lit] using this
    · have h1 := hcell i (by omega)
      rw [Addr.add_lit] at h1
      rw [h1]
      have hil : i < zs.length := by omega
      have hw := bounds_u8 (hwz zs[i] (List.getElem_mem hil))
      have e1 : zs.getD i 0 = zs[i] := by simp [List.getD, hil]
      have e2 : ((zs.take n).map fun z => UInt8.ofNat z.toNat).getD i 0 = UInt8.ofNat zs[i].toNat := by
        simp [List.getD, hil, hi]
      rw [e1, e2, UInt8.toNat_ofNat']
      congr 2
      omega
end
end Go.Proofs.Ytnppihlalhaldaa
