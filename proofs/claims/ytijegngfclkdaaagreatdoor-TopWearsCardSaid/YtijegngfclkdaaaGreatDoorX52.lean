/-
  TopWears: the law answers true at every input, and each argument reads as it did.
  Conditions: none.
-/
import Derived.Test.YtijegngfclkdaaaGreatDoorRows
import Derived.Test.YtijegngfclkdaaaGreatDoorTie
import Derived.Test.YtijegngfclkdaaaGreatDoorCards
import Derived.SevenTiedAt
import Derived.Test.YtijegngfclkdaaaGreatDoorX49
import Derived.Test.YtijegngfclkdaaaGreatDoorX50
import Derived.Test.YtijegngfclkdaaaGreatDoorW49
import Derived.Test.YtijegngfclkdaaaGreatDoorW51
set_option linter.unusedVariables false
set_option linter.unusedSimpArgs false
set_option maxHeartbeats 100000000
set_option maxRecDepth 100000
namespace Go.Proofs.YtijegngfclkdaaaGreatDoor
theorem ErrG.pos {w : World} (h : ErrG w) : 0 < w.heap.size := by
 rcases Nat.eq_zero_or_pos w.heap.size with h0 | h1
 · unfold ErrG at h; simp [World.cell?, h0] at h
 · exact h1
end Go.Proofs.YtijegngfclkdaaaGreatDoor
namespace Go.Proofs.YtijegngfclkdaaaGreatDoor.topWears
open Go.ChangeShapes Go.WideShapes Go.ChangeAt Go.RowKit Ev
theorem own:ownKnob Tryz.prog.godebug=none:=by kernel_rfl
theorem laidOut:laidOutB Tryz.prog=true:=by kernel_rfl
theorem lifted (os:Os) (started:os.Started) (H:Type) (enc:TypeId×Value→H) :
  ReturnsInHanded {} Tryz.checked os 3 .any (fun w args=>(Rows.topWearsSpec.pre enc Tryz.prog Tryz.f3 [] false w args∧laidMetH Tryz.prog laid6 w)∧sizedMet enc Tryz.prog Tryz.f3 (OpenSpec.ofChange Rows.topWearsSpec) false w args)
   (Rows.topWearsSpec.post enc Tryz.prog Tryz.f3 false true false false):=by
 refine returnsInHanded_of_change_and (C:=Tryz.checked) (X:=fun w _=>laidMetH Tryz.prog laid6 w) (fun _ _ _ hh h=>h.of_heap hh) own started (by kernel_rfl) Tryz.func3
  (ChangeSpec.witness_shaped (enc:=enc) (C:=Tryz.checked) (os:=os) (X:=fun w _=>laidMetH Tryz.prog laid6 w) false (World.doorLaid Tryz.prog 111 os) #[.int .u8 0,.slice none 0 0] 8 rfl (World.shaped_of_RefB (by kernel_rfl) (by kernel_rfl)) (by kernel_rfl) (by kernel_rfl) (by kernel_rfl) (door_met os _)) ?_
 intro W base args ds gs before hval0 hW _ _ hL _;have hval:∀ (j:Nat) t v,Tryz.f3.params[j]?=some t→args[j]?=some v→Value.okWide Tryz.prog W .any base t v:=hval0;have hW':=hW;obtain ⟨p,q,hA0,hV,rfl,hfz,hnd⟩:=hW;have hA:DataW.TrodAll enc Tryz.prog W 0 (fun _=>true) true Tryz.f3.params.toList args.toList ds p:=hA0;rw [Tryz.params3] at hA hval;obtain ⟨v0,vs0,d0,ds0,p0,q0,hargs,rfl,rfl,h0,r0⟩:=trodAll_cons hA;obtain ⟨v1,vs1,d1,ds1,p1,q1,rfl,rfl,rfl,h1,r1⟩:=trodAll_cons r0;obtain ⟨rfl,rfl,rfl⟩:=trodAll_nil r1;obtain rfl:args=#[v0,v1]:=by cases args; simp_all
 obtain ⟨rfl,rfl⟩:=trodVars_none hV;obtain ⟨a0,rfl,rfl,rfl,w0⟩:=open_int Tryz.underlying5 (hval 0 5 v0 rfl rfl) h0;have k1:=h1;have lt1:∀ x∈p1,x.block < W.heap.size:=by obtain ⟨m,hm⟩:=k1; exact DataW.trod_lt m _ _ _ hm
 obtain ⟨A1,n1,c1,rfl,x1⟩:=open_ops (hval 1 22 v1 rfl rfl) h1;obtain ⟨s,rfl,hs⟩:=top_u8 w0;have hE:=handle_of_laid hL;clear hA0 hval0;refine (wears_any W hE hE.pos s hs x1).mono fun e W' ⟨he,bel⟩=>?_
 subst he;exact ⟨_,rfl,_,_,_,[],_,[],hW',trodAll_mk1 (shut_bool Tryz.underlying4 _),(trodAll_cons_mk (shut_int Tryz.underlying5 w0) (trodAll_cons_mk (Below.trod laidOut (by kernel_rfl) (of_decide_eq_true (by kernel_rfl)) k1 bel lt1) trodAll_mk0)),rfl,bel.frame _,fun h=>by cases h⟩
theorem proved:Rows.TopWearsCardSaid:=card fun os started H enc=>lifted os started H enc
#print axioms proved
end Go.Proofs.YtijegngfclkdaaaGreatDoor.topWears
