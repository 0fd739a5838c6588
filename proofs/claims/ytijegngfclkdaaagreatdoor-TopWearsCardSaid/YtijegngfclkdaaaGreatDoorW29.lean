/-
  Pieces of the proof: part 29 of 54.
  Conditions: none.
-/
import Derived.Test.YtijegngfclkdaaaGreatDoorProg
import Derived.WalkKit
import Derived.LaidEql
import Derived.Stop.Asserts
import Derived.RowKitTokens
import Derived.ProofKit
import Derived.OpenShut
import Derived.ShutString
import Derived.ChangeOld
import Derived.Test.YtijegngfclkdaaaGreatDoorW11
import Derived.Test.YtijegngfclkdaaaGreatDoorW12
import Derived.Test.YtijegngfclkdaaaGreatDoorW13
import Derived.Test.YtijegngfclkdaaaGreatDoorW14
import Derived.Test.YtijegngfclkdaaaGreatDoorW16
import Derived.Test.YtijegngfclkdaaaGreatDoorW17
set_option linter.unusedVariables false
set_option linter.unusedSimpArgs false
set_option maxHeartbeats 100000000
set_option maxRecDepth 100000
namespace Go.Proofs.YtijegngfclkdaaaGreatDoor
open Go.RowKit Go.Extern.Stop Go.Stop Go.Extern
theorem Ty_valueOf446 (t:Addr) (w:World):(ReflectliteValue.unpack (.iface 446 (.pointer (some t)))).run Tryz.prog w
  = .ok (.agg #[.pointer (some ⟨6,446,none⟩),.pointer (some ⟨w.heap.size,0,none⟩),.int .u64 150]) (w.alloc (.cells #[.pointer (some t)] 446)):=by kernel_rfl
theorem Ty_type446 (a : Addr) (w : World) : (ReflectliteValue.methodAny (ReflectliteValue.valueError "reflectlite.Value.Type" 0) (fun t _ _ _ => ReflectliteType.toType t) #[.agg #[.pointer (some ⟨6, 446, none⟩), .pointer (some a), .int .u64 150]]).run Tryz.prog w
  = .ok (.iface 474 (.agg #[.pointer (some ⟨6,446,none⟩)])) w:=by kernel_rfl
theorem Ty_methodKind (h : Value) (w : World) : (Go.method 633 474 (.agg #[h]) "Kind").run Tryz.prog w = .ok (427, h) w := by kernel_rfl
theorem Ty_kind446 (w:World):((ReflectliteType.abiMethod fun t=>(fun a:Nat=>Value.int IntKind.u8 (a:Int)) <$> Rtype.kind t) #[.pointer (some ⟨6,446,none⟩)]).run Tryz.prog w=.ok (.int .u8 22) w:=by kernel_rfl
theorem Ty_kind444 (w:World):((ReflectliteType.abiMethod fun t=>(fun a:Nat=>Value.int IntKind.u8 (a:Int)) <$> Rtype.kind t) #[.pointer (some ⟨6,444,none⟩)]).run Tryz.prog w=.ok (.int .u8 22) w:=by kernel_rfl
theorem Ty_rlm (z:Sem Value) (f:TypeId→Addr→Nat→Nat→Sem Value) (v:Value) :
  ReflectliteValue.method z f #[v]=(do match ← ReflectliteValue.parts v with | none=>z | some (t,a,fl)=>f t a fl (fl % 32)):=rfl
theorem Ty_parts446 (a:Addr) (w:World):(ReflectliteValue.parts (.agg #[.pointer (some ⟨6,446,none⟩),.pointer (some a),.int .u64 150])).run Tryz.prog w=.ok (some (446,a,150)) w:=by kernel_rfl
theorem Ty_isNil446 (a p:Addr) (W:World) (ha:W.cell? a=some (.pointer (some p))) :
  (ReflectliteValue.method (ReflectliteValue.valueError "reflectlite.Value.IsNil" 0) ReflectliteValue.isNil #[.agg #[.pointer (some ⟨6, 446, none⟩), .pointer (some a), .int .u64 150]]).run Tryz.prog W = .ok (.bool false) W := by
 rw [Ty_rlm];simp only [Sem.run_bind,Ty_parts446,Result.andThen];simp [ReflectliteValue.isNil,loadVar,isAgg,underlying,Tryz.underlying446,ha,Result.andThen]
theorem Ty_methodElem (h : Value) (w : World) : (Go.method 633 474 (.agg #[h]) "Elem").run Tryz.prog w = .ok (443, .agg #[h]) w := by kernel_rfl
theorem Ty_methodImplements (h : Value) (w : World) : (Go.method 633 474 (.agg #[h]) "Implements").run Tryz.prog w = .ok (444, .agg #[h]) w := by kernel_rfl
theorem Ty_methodAssignableTo (h : Value) (w : World) : (Go.method 633 474 (.agg #[h]) "AssignableTo").run Tryz.prog w = .ok (441, .agg #[h]) w := by kernel_rfl
theorem Ty_elem446 (w:World):(ReflectliteType.method ReflectliteType.elem #[.agg #[.pointer (some ⟨6,446,none⟩)]]).run Tryz.prog w=.ok (.iface 474 (.agg #[.pointer (some ⟨6,444,none⟩)])) w:=by kernel_rfl
theorem Ty_implements444 (w : World) : (ReflectliteType.relation "Implements" ReflectliteType.implements_ #[.agg #[.pointer (some ⟨6, 444, none⟩)], .iface 474 (.agg #[.pointer (some ⟨6, 415, none⟩)])]).run Tryz.prog w = .ok (.bool true) w := by kernel_rfl
theorem Ty_typeOf444 (v:Value) (w:World):(ReflectliteType.typeOf #[.iface 444 v]).run Tryz.prog w=.ok (.iface 474 (.agg #[.pointer (some ⟨6,444,none⟩)])) w:=by kernel_rfl
theorem Ty_typeOf441 (v:Value) (w:World):(ReflectliteType.typeOf #[.iface 441 v]).run Tryz.prog w=.ok (.iface 474 (.agg #[.pointer (some ⟨6,441,none⟩)])) w:=by kernel_rfl
theorem Ty_assignable444 (w : World) : (ReflectliteType.relation "AssignableTo" ReflectliteType.assignableTo #[.agg #[.pointer (some ⟨6, 444, none⟩)], .iface 474 (.agg #[.pointer (some ⟨6, 444, none⟩)])]).run Tryz.prog w = .ok (.bool true) w := by kernel_rfl
theorem Ty_assignable441 (w : World) : (ReflectliteType.relation "AssignableTo" ReflectliteType.assignableTo #[.agg #[.pointer (some ⟨6, 441, none⟩)], .iface 474 (.agg #[.pointer (some ⟨6, 444, none⟩)])]).run Tryz.prog w = .ok (.bool false) w := by kernel_rfl
theorem Ty_valueOf444 (e:Addr) (w:World):(ReflectliteValue.unpack (.iface 444 (.pointer (some e)))).run Tryz.prog w
  = .ok (.agg #[.pointer (some ⟨6,444,none⟩),.pointer (some ⟨w.heap.size,0,none⟩),.int .u64 150]) (w.alloc (.cells #[.pointer (some e)] 444)):=by kernel_rfl
theorem Ty_elemOf446 (w:World):(Rtype.elem? 446).run Tryz.prog w=.ok (some 444) w:=by kernel_rfl
theorem Ty_mk444 (p:Addr) (w:World):(ReflectliteValue.mk 444 p ReflectliteValue.flagAddr).run Tryz.prog w=.ok (.agg #[.pointer (some ⟨6,444,none⟩),.pointer (some p),.int .u64 406]) w:=by kernel_rfl
theorem Ty_elemV446 (a p:Addr) (W:World) (ha:W.cell? a=some (.pointer (some p))) :
  (ReflectliteValue.method (ReflectliteValue.valueError "reflectlite.Value.Elem" 0) ReflectliteValue.elem #[.agg #[.pointer (some ⟨6, 446, none⟩), .pointer (some a), .int .u64 150]]).run Tryz.prog W
   = .ok (.agg #[.pointer (some ⟨6,444,none⟩),.pointer (some p),.int .u64 406]) W:=by
 rw [Ty_rlm];simp only [Sem.run_bind,Ty_parts446,Result.andThen];simp [ReflectliteValue.elem,loadVar,isAgg,underlying,Tryz.underlying446,ha,Result.andThen,Ty_elemOf446,Ty_mk444]
theorem Ty_rls (v x:Value):ReflectliteValue.set #[v,x]=(do
  let (some (dst,a,fl),some (src,b,_)):=(← ReflectliteValue.parts v,← ReflectliteValue.parts x)
   | unsupported (.noEntry "extern/(internal/reflectlite.Value).Set.zeroValue")
  if fl / ReflectliteValue.flagAddr % 2 == 0 then unsupported (.noEntry "extern/(internal/reflectlite.Value).Set.unaddressable")
  let val ← loadVar src b
  if ← Rtype.directlyAssignable dst src then storeVar dst a val
  else if ← Rtype.implements dst src then
   if (← Rtype.kind src) == 20 then
    match val with
    | .nilIface => unsupported (.noEntry "extern/reflectlite: a nil value of one interface type handed on as a value of another")
    | _=>storeVar dst a val
   else storeVar dst a (.iface src val)
  else panicString ("reflectlite.Set: value of type " ++ (← Rtype.spelt src) ++ " is not assignable to type " ++ (← Rtype.spelt dst))
  pure (.tuple #[])):=rfl
theorem Ty_parts444a (a:Addr) (w:World):(ReflectliteValue.parts (.agg #[.pointer (some ⟨6,444,none⟩),.pointer (some a),.int .u64 406])).run Tryz.prog w=.ok (some (444,a,406)) w:=by kernel_rfl
theorem Ty_parts444 (a:Addr) (w:World):(ReflectliteValue.parts (.agg #[.pointer (some ⟨6,444,none⟩),.pointer (some a),.int .u64 150])).run Tryz.prog w=.ok (some (444,a,150)) w:=by kernel_rfl
theorem Ty_direct444 (w:World):(Rtype.directlyAssignable 444 444).run Tryz.prog w=.ok true w:=by kernel_rfl
theorem Ty_set444 (ta b e:Addr) (old:Value) (W:World) (hb:W.cell? b=some (.pointer (some e))) (ht:W.cell? ta=some old) (hf:W.frozen? ta=false) :
  (ReflectliteValue.set #[.agg #[.pointer (some ⟨6,444,none⟩),.pointer (some ta),.int .u64 406],.agg #[.pointer (some ⟨6,444,none⟩),.pointer (some b),.int .u64 150]]).run Tryz.prog W
   = .ok (.tuple #[]) (W.setCell ta (.pointer (some e))):=by
 rw [Ty_rls];simp only [Sem.run_bind,Ty_parts444a,Ty_parts444,Result.andThen];simp [ReflectliteValue.flagAddr,loadVar,isAgg,underlying,Tryz.underlying444,hb,Result.andThen,Ty_direct444,storeVar,Value.cells,storeCells,Addr.add];rw [run_store Tryz.prog W ta _ _ (by rfl)];simp [ht,hf]
theorem Ty_noAs441 (v:Value) (xT:TypeId) (w:World):(Instr.typeAssert (.iface 441 v) xT 486 true).run Tryz.prog w=.ok (.tuple #[.nilIface,.bool false]) w:=run_typeAssert_lacksB Tryz.underlying486 (by kernel_rfl) (by kernel_rfl) v xT w
theorem Ty_noUnwrap441 (v:Value) (xT:TypeId) (w:World):(Instr.typeAssert (.iface 441 v) xT 479 true).run Tryz.prog w=.ok (.tuple #[.nilIface,.bool false]) w:=run_typeAssert_lacksB Tryz.underlying479 (by kernel_rfl) (by kernel_rfl) v xT w
theorem Ty_noUnwraps441 (v:Value) (xT:TypeId) (w:World):(Instr.typeAssert (.iface 441 v) xT 481 true).run Tryz.prog w=.ok (.tuple #[.nilIface,.bool false]) w:=run_typeAssert_lacksB Tryz.underlying481 (by kernel_rfl) (by kernel_rfl) v xT w
theorem as_link (e t:Addr) (old:Value) (w:World) (hg:w.cell? ⟨0,0,none⟩=some (.iface 474 (.agg #[.pointer (some ⟨6,415,none⟩)]))) (ht0:w.cell? t=some old) (hf0:w.frozen? t=false) :
  Calls Tryz.prog 371 #[.iface 444 (.pointer (some e)),.iface 446 (.pointer (some t))] w fun ev w'=>ev=.returned (.bool true)∧w'=((((w.alloc (.cells #[.pointer (some t)] 446)).alloc (.cells #[.pointer (some ⟨6,446,none⟩),.pointer (some ⟨w.heap.size,0,none⟩),.int .u64 150] 462)).alloc (.cells #[.pointer (some ⟨6,446,none⟩),.pointer (some ⟨w.heap.size,0,none⟩),.int .u64 150] 462)).alloc (.cells #[.pointer (some e)] 444)).setCell t (.pointer (some e)):=by
 have h6:=@run_callFunc_extern Tryz.prog 381 _ (fun args=>ReflectliteValue.unpack (args.getD 0 (.tuple #[]))) Tryz.func381 (by kernel_rfl) (by kernel_rfl) (by kernel_rfl) (by kernel_rfl);have h7 := @run_callFunc_extern Tryz.prog 382 _ (ReflectliteValue.methodAny (ReflectliteValue.valueError "reflectlite.Value.Type" 0) (fun t _ _ _ => ReflectliteType.toType t)) Tryz.func382 (by kernel_rfl) (by kernel_rfl) (by kernel_rfl) (by kernel_rfl);have h8 := @run_callFunc_extern Tryz.prog 383 _ (ReflectliteValue.method (ReflectliteValue.valueError "reflectlite.Value.IsNil" 0) ReflectliteValue.isNil) Tryz.func383 (by kernel_rfl) (by kernel_rfl) (by kernel_rfl) (by kernel_rfl);have h27:=@run_callFunc_extern Tryz.prog 427 _ (ReflectliteType.abiMethod fun t=>do pure (.int .u8 (← Rtype.kind t))) Tryz.func427 (by kernel_rfl) (by kernel_rfl) (by kernel_rfl) (by kernel_rfl);have h37:=@run_callFunc_extern Tryz.prog 443 _ (ReflectliteType.method ReflectliteType.elem) Tryz.func443 (by kernel_rfl) (by kernel_rfl) (by kernel_rfl) (by kernel_rfl);have h38 := @run_callFunc_extern Tryz.prog 444 _ (ReflectliteType.relation "Implements" ReflectliteType.implements_) Tryz.func444 (by kernel_rfl) (by kernel_rfl) (by kernel_rfl) (by kernel_rfl);have h10:=@run_callFunc_extern Tryz.prog 379 _ ReflectliteType.typeOf Tryz.func379 (by kernel_rfl) (by kernel_rfl) (by kernel_rfl) (by kernel_rfl);have h35 := @run_callFunc_extern Tryz.prog 441 _ (ReflectliteType.relation "AssignableTo" ReflectliteType.assignableTo) Tryz.func441 (by kernel_rfl) (by kernel_rfl) (by kernel_rfl) (by kernel_rfl);have mA:=Ty_methodAssignableTo;have f6:=Ty_valueOf446;have f7:=Ty_type446;have mK:=Ty_methodKind;have mE:=Ty_methodElem;have mI:=Ty_methodImplements;have k27:=Ty_kind446;have k25:=Ty_kind444;have e27:=Ty_elem446;have i25:=Ty_implements444;have n8:=Ty_isNil446 ⟨w.heap.size,0,none⟩ t ((w.alloc (.cells #[.pointer (some t)] 446)).alloc (.cells #[.pointer (some ⟨6,446,none⟩),.pointer (some ⟨w.heap.size,0,none⟩),.int .u64 150] 462)) (by simp);have hlt:0 < w.heap.size:=by
  rcases Nat.eq_zero_or_pos w.heap.size with h0 | h
  ·simp [World.cell?,h0] at hg
  ·exact h
 have hg2:((w.alloc (.cells #[.pointer (some t)] 446)).alloc (.cells #[.pointer (some ⟨6,446,none⟩),.pointer (some ⟨w.heap.size,0,none⟩),.int .u64 150] 462)).cell? ⟨0,0,none⟩=some (.iface 474 (.agg #[.pointer (some ⟨6,415,none⟩)])):=by
  rw [World.cell?_alloc_lt _ _ ⟨0,0,none⟩ (by simp),World.cell?_alloc_lt _ _ ⟨0,0,none⟩ hlt]; exact hg
 have h11 := @run_callFunc_extern Tryz.prog 394 _ (ReflectliteValue.method (ReflectliteValue.valueError "reflectlite.Value.Elem" 0) ReflectliteValue.elem) Tryz.func394 (by kernel_rfl) (by kernel_rfl) (by kernel_rfl) (by kernel_rfl);have h12:=@run_callFunc_extern Tryz.prog 395 _ ReflectliteValue.set Tryz.func395 (by kernel_rfl) (by kernel_rfl) (by kernel_rfl) (by kernel_rfl);have tO:=Ty_typeOf444;have a25:=Ty_assignable444;have v25:=Ty_valueOf444;have htl:t.block < w.heap.size:=by
  rcases Nat.lt_or_ge t.block w.heap.size with h | h
  ·exact h
  ·simp [World.cell?,Array.getElem?_eq_none h] at ht0
 have el:=Ty_elemV446 ⟨w.heap.size,0,none⟩ t (((w.alloc (.cells #[.pointer (some t)] 446)).alloc (.cells #[.pointer (some ⟨6,446,none⟩),.pointer (some ⟨w.heap.size,0,none⟩),.int .u64 150] 462)).alloc (.cells #[.pointer (some ⟨6,446,none⟩),.pointer (some ⟨w.heap.size,0,none⟩),.int .u64 150] 462)) (by rw [World.cell?_alloc_lt _ _ ⟨w.heap.size,0,none⟩ (by simp; omega)]; simp);have st:=Ty_set444 t ⟨w.heap.size + 1 + 1 + 1,0,none⟩ e old ((((w.alloc (.cells #[.pointer (some t)] 446)).alloc (.cells #[.pointer (some ⟨6,446,none⟩),.pointer (some ⟨w.heap.size,0,none⟩),.int .u64 150] 462)).alloc (.cells #[.pointer (some ⟨6,446,none⟩),.pointer (some ⟨w.heap.size,0,none⟩),.int .u64 150] 462)).alloc (.cells #[.pointer (some e)] 444))
  (by rw [World.cell?_alloc_at _ _ _ _ (by simp)]; rfl)
  (by rw [World.cell?_alloc_lt _ _ t (by simp; omega),World.cell?_alloc_lt _ _ t (by simp; omega),World.cell?_alloc_lt _ _ t (by simp; omega),World.cell?_alloc_lt _ _ t htl]; exact ht0)
  (by rw [World.frozen?_alloc_old _ _ t (by simp; omega),World.frozen?_alloc_old _ _ t (by simp; omega),World.frozen?_alloc_old _ _ t (by simp; omega),World.frozen?_alloc_old _ _ t (Nat.ne_of_lt htl)]; exact hf0)
 go_enter Tryz.func371,Tryz.ntmps371
 go_wp2
 refine wp_loop_rounds 1 ?_;rw [rounds_succ];go_wp2
 go_ret
 exact ⟨rfl,rfl⟩
theorem as_words (e t:Addr) (w:World) (hg:w.cell? ⟨0,0,none⟩=some (.iface 474 (.agg #[.pointer (some ⟨6,415,none⟩)]))) :
  Calls Tryz.prog 371 #[.iface 441 (.pointer (some e)),.iface 446 (.pointer (some t))] w fun ev w'=>ev=.returned (.bool false)∧w'=(((w.alloc (.cells #[.pointer (some t)] 446)).alloc (.cells #[.pointer (some ⟨6,446,none⟩),.pointer (some ⟨w.heap.size,0,none⟩),.int .u64 150] 462)).alloc (.cells #[.pointer (some ⟨6,446,none⟩),.pointer (some ⟨w.heap.size,0,none⟩),.int .u64 150] 462)):=by
 have h6:=@run_callFunc_extern Tryz.prog 381 _ (fun args=>ReflectliteValue.unpack (args.getD 0 (.tuple #[]))) Tryz.func381 (by kernel_rfl) (by kernel_rfl) (by kernel_rfl) (by kernel_rfl);have h7 := @run_callFunc_extern Tryz.prog 382 _ (ReflectliteValue.methodAny (ReflectliteValue.valueError "reflectlite.Value.Type" 0) (fun t _ _ _ => ReflectliteType.toType t)) Tryz.func382 (by kernel_rfl) (by kernel_rfl) (by kernel_rfl) (by kernel_rfl);have h8 := @run_callFunc_extern Tryz.prog 383 _ (ReflectliteValue.method (ReflectliteValue.valueError "reflectlite.Value.IsNil" 0) ReflectliteValue.isNil) Tryz.func383 (by kernel_rfl) (by kernel_rfl) (by kernel_rfl) (by kernel_rfl);have h27:=@run_callFunc_extern Tryz.prog 427 _ (ReflectliteType.abiMethod fun t=>do pure (.int .u8 (← Rtype.kind t))) Tryz.func427 (by kernel_rfl) (by kernel_rfl) (by kernel_rfl) (by kernel_rfl);have h37:=@run_callFunc_extern Tryz.prog 443 _ (ReflectliteType.method ReflectliteType.elem) Tryz.func443 (by kernel_rfl) (by kernel_rfl) (by kernel_rfl) (by kernel_rfl);have h38 := @run_callFunc_extern Tryz.prog 444 _ (ReflectliteType.relation "Implements" ReflectliteType.implements_) Tryz.func444 (by kernel_rfl) (by kernel_rfl) (by kernel_rfl) (by kernel_rfl);have h10:=@run_callFunc_extern Tryz.prog 379 _ ReflectliteType.typeOf Tryz.func379 (by kernel_rfl) (by kernel_rfl) (by kernel_rfl) (by kernel_rfl);have h35 := @run_callFunc_extern Tryz.prog 441 _ (ReflectliteType.relation "AssignableTo" ReflectliteType.assignableTo) Tryz.func441 (by kernel_rfl) (by kernel_rfl) (by kernel_rfl) (by kernel_rfl);have mA:=Ty_methodAssignableTo;have f6:=Ty_valueOf446;have f7:=Ty_type446;have mK:=Ty_methodKind;have mE:=Ty_methodElem;have mI:=Ty_methodImplements;have k27:=Ty_kind446;have k25:=Ty_kind444;have e27:=Ty_elem446;have i25:=Ty_implements444;have n8:=Ty_isNil446 ⟨w.heap.size,0,none⟩ t ((w.alloc (.cells #[.pointer (some t)] 446)).alloc (.cells #[.pointer (some ⟨6,446,none⟩),.pointer (some ⟨w.heap.size,0,none⟩),.int .u64 150] 462)) (by simp);have hlt:0 < w.heap.size:=by
  rcases Nat.eq_zero_or_pos w.heap.size with h0 | h
  ·simp [World.cell?,h0] at hg
  ·exact h
 have hg2:((w.alloc (.cells #[.pointer (some t)] 446)).alloc (.cells #[.pointer (some ⟨6,446,none⟩),.pointer (some ⟨w.heap.size,0,none⟩),.int .u64 150] 462)).cell? ⟨0,0,none⟩=some (.iface 474 (.agg #[.pointer (some ⟨6,415,none⟩)])):=by
  rw [World.cell?_alloc_lt _ _ ⟨0,0,none⟩ (by simp),World.cell?_alloc_lt _ _ ⟨0,0,none⟩ hlt]; exact hg
 have tO:=Ty_typeOf441;have a25:=Ty_assignable441;have nA:=Ty_noAs441;have nU:=Ty_noUnwrap441;have nV:=Ty_noUnwraps441;go_enter Tryz.func371,Tryz.ntmps371
 go_wp2
 refine wp_loop_rounds 1 ?_;rw [rounds_succ];go_wp2
 go_ret
 exact ⟨rfl,rfl⟩
end Go.Proofs.YtijegngfclkdaaaGreatDoor
namespace Go.Proofs.YtijegngfclkdaaaGreatDoor
open Go.RowKit Go.Extern.Stop Go.Stop Go.Extern
theorem Ti_typeOf (v:Value) (w:World):(Extern.ReflectliteType.typeOf #[.iface 441 v]).run Tryz.prog w=.ok (.iface 474 (.agg #[.pointer (some ⟨6,441,none⟩)])) w:=by kernel_rfl
theorem Ti_comparable (w : World) : ((Extern.ReflectliteType.method fun t => do Rtype.noPackHeld "Comparable" t; (fun a => Value.bool a.comparable) <$> typeInfo t) #[.agg #[.pointer (some ⟨6, 441, none⟩)]]).run Tryz.prog w = .ok (.bool true) w := by kernel_rfl
theorem Ti_comparable2 (w : World) : ((Extern.ReflectliteType.method fun t => do Rtype.noPackHeld "Comparable" t; pure (.bool (← typeInfo t).comparable)) #[.agg #[.pointer (some ⟨6, 441, none⟩)]]).run Tryz.prog w = .ok (.bool true) w := by kernel_rfl
theorem Ti_methodComparable (v : Value) (w : World) : (Go.method 633 474 v "Comparable").run Tryz.prog w = .ok (442, v) w := by kernel_rfl
theorem Ti_comp:(Tryz.prog.info? 441).map (·.comparable)=some true:=by kernel_rfl
theorem Ti_size:(Tryz.prog.info? 443).map (·.size)=some 1:=by kernel_rfl
theorem Ti_noIs444 (v:Value) (xT:TypeId) (w:World):(Instr.typeAssert (.iface 444 v) xT 476 true).run Tryz.prog w=.ok (.tuple #[.nilIface,.bool false]) w:=run_typeAssert_lacksB Tryz.underlying476 (by kernel_rfl) (by kernel_rfl) v xT w
theorem Ti_hasUnwrap444 (v:Value) (xT:TypeId) (w:World):(Instr.typeAssert (.iface 444 v) xT 479 true).run Tryz.prog w=.ok (.tuple #[.iface 444 v,.bool true]) w:=run_typeAssert_hasB Tryz.underlying479 (by kernel_rfl) v xT w
theorem Ti_methodUnwrap (v : Value) (w : World) : (Go.method 633 444 v "Unwrap").run Tryz.prog w = .ok (436, v) w := by kernel_rfl
theorem Ti_hasIs441 (v:Value) (xT:TypeId) (w:World):(Instr.typeAssert (.iface 441 v) xT 476 true).run Tryz.prog w=.ok (.tuple #[.iface 441 v,.bool true]) w:=run_typeAssert_hasB Tryz.underlying476 (by kernel_rfl) v xT w
theorem Ti_methodIs (v : Value) (w : World) : (Go.method 633 441 v "Is").run Tryz.prog w = .ok (434, v) w := by kernel_rfl
theorem Ti_isW (v:Value) (w:World):(Instr.typeAssert (.iface 441 v) 415 441 true).run Tryz.prog w=.ok (.tuple #[v,.bool true]) w:=by kernel_rfl
theorem linkUnwrap_any (p:Nat) (u:Value) (w:World) (h:w.cell? ⟨p,1,none⟩=some u):Calls Tryz.prog 436 #[.pointer (some ⟨p,0,none⟩)] w fun e w'=>e=.returned u∧w=w':=by
 go_enter Tryz.func436,Tryz.ntmps436
 go_wp2_with fail
 go_ret
 exact ⟨rfl,rfl⟩
theorem wordsIs_any (q q':Nat) (x x':ByteArray) (w:World) (h:w.cell? ⟨q,0,none⟩=some (.string x)) (h':w.cell? ⟨q',0,none⟩=some (.string x')):Calls Tryz.prog 434 #[.pointer (some ⟨q,0,none⟩),.iface 441 (.pointer (some ⟨q',0,none⟩))] w fun e w'=>e=.returned (.bool (x'.toList == x.toList))∧Below w.heap.size w w':=by
 have T:=cell_regrown h;have T':=cell_regrown h';have tA:=Ti_isW;go_enter Tryz.func434,Tryz.ntmps434
 go_wp2_with fail
 go_big_quiet (fail)
 go_wp2_with fail
 go_ret
 exact ⟨rfl,below_drewN (Below.refl _ _) nq⟩
theorem eis_link {p q q':Nat} {x x':ByteArray} {cc:Value} (w:World) (hp:Blk w p 448 #[cc,.iface 441 (.pointer (some ⟨q,0,none⟩))]) (hq:Blk w q 443 #[.string x]) (hq':Blk w q' 443 #[.string x']) (hne:q≠q') :
  Calls Tryz.prog 380 #[.iface 444 (.pointer (some ⟨p,0,none⟩)),.iface 441 (.pointer (some ⟨q',0,none⟩)),.bool true] w fun e w'=>e=.returned (.bool (x'.toList == x.toList))∧Below w.heap.size w w':=by
 obtain ⟨i,hi,hcmp⟩:=Option.map_eq_some_iff.1 Ti_comp;obtain ⟨j,hj,hjs⟩:=Option.map_eq_some_iff.1 Ti_size;have nE:=Ti_noIs444;have uE:=Ti_hasUnwrap444;have mU:=Ti_methodUnwrap;have hI:=Ti_hasIs441;have mI:=Ti_methodIs;have heq:=run_eql_iface_ptr_other (P:=Tryz.prog) w Tryz.underlying415 Tryz.underlying441 hi hcmp hj (by rw [hjs]; decide) (a:=⟨q,0,none⟩) (b:=⟨q',0,none⟩) (by intro e; injection e with e1 _; exact hne e1) hq hq';have hty:=run_eql_iface_types (P:=Tryz.prog) 444 441 (.pointer (some ⟨p,0,none⟩)) (.pointer (some ⟨q',0,none⟩)) Tryz.underlying415 (by decide) w;have hp1:w.cell? ⟨p,1,none⟩=some (.iface 441 (.pointer (some ⟨q,0,none⟩))):=hp.cell 1;have UW:=Lib.hid (linkUnwrap_any p _ w hp1);have WI:=Lib.hid (wordsIs_any q q' x x' w (hq.cell 0) (hq'.cell 0));have nU:=Ty_noUnwrap441;have nV:=Ty_noUnwraps441;clear hp hq hq' hne hi hj hcmp hjs hp1;cases hb:(x'.toList == x.toList) with
 | true =>
  rw [hb] at WI;clear hb;go_enter Tryz.func380,Tryz.ntmps380
  go_wp2_with fail
  refine wp_loop_rounds 2 ?_;rw [rounds_succ];go_wp2_with fail
  refine (UW.out).mono ?_;rintro e _ ⟨rfl,rfl⟩;go_wp2_with fail
  rw [rounds_succ];go_wp2_with fail
  refine (WI.out).mono ?_;rintro e w2 ⟨rfl,b2⟩;go_wp2_with fail
  go_ret
  exact ⟨rfl,b2⟩
 | false =>
  rw [hb] at WI;clear hb;go_enter Tryz.func380,Tryz.ntmps380
  go_wp2_with fail
  refine wp_loop_rounds 2 ?_;rw [rounds_succ];go_wp2_with fail
  refine (UW.out).mono ?_;rintro e _ ⟨rfl,rfl⟩;go_wp2_with fail
  rw [rounds_succ];go_wp2_with fail
  refine (WI.out).mono ?_;rintro e w2 ⟨rfl,b2⟩;go_wp2_with fail
  go_ret
  exact ⟨rfl,b2⟩
theorem is_link {p q q':Nat} {x x':ByteArray} {cc:Value} (w:World) (hp:Blk w p 448 #[cc,.iface 441 (.pointer (some ⟨q,0,none⟩))]) (hq:Blk w q 443 #[.string x]) (hq':Blk w q' 443 #[.string x']) (hne:q≠q') :
  Calls Tryz.prog 370 #[.iface 444 (.pointer (some ⟨p,0,none⟩)),.iface 441 (.pointer (some ⟨q',0,none⟩))] w fun e w'=>e=.returned (.bool (x'.toList == x.toList))∧Below w.heap.size w w':=by
 obtain ⟨i,hi,hcmp⟩:=Option.map_eq_some_iff.1 Ti_comp;obtain ⟨j,hj,hjs⟩:=Option.map_eq_some_iff.1 Ti_size;have h8:=@run_callFunc_extern Tryz.prog 379 _ Extern.ReflectliteType.typeOf Tryz.func379 (by kernel_rfl) (by kernel_rfl) (by kernel_rfl) (by kernel_rfl);have h32 := @run_callFunc_extern Tryz.prog 442 _ (Extern.ReflectliteType.method fun t => do Rtype.noPackHeld "Comparable" t; pure (.bool (← typeInfo t).comparable)) Tryz.func442 (by kernel_rfl) (by kernel_rfl) (by kernel_rfl) (by kernel_rfl);have tT:=Ti_typeOf;have cT:=Ti_comparable;have cT2:=Ti_comparable2;have mR:=Ti_methodComparable;have EI:=Lib.hid (eis_link w hp hq hq' hne);clear hp hq hq' hne hi hj hcmp hjs;generalize (x'.toList == x.toList)=b at *;go_enter Tryz.func370,Tryz.ntmps370
 go_wp2_with fail
 refine (EI.out).mono ?_;rintro e w2 ⟨rfl,b2⟩;go_wp2_with fail
 go_ret
 exact ⟨rfl,b2⟩
end Go.Proofs.YtijegngfclkdaaaGreatDoor
namespace Go.Proofs.YtijegngfclkdaaaGreatDoor
open Go.RowKit
theorem as_link2 {e:Addr} {t:Nat} {old:Value} {w:World} (hg:w.cell? ⟨0,0,none⟩=some (.iface 474 (.agg #[.pointer (some ⟨6,415,none⟩)]))) (ht:Blk w t 444 #[old]) :
  Calls Tryz.prog 371 #[.iface 444 (.pointer (some e)),.iface 446 (.pointer (some ⟨t,0,none⟩))] w fun ev w'=>ev=.returned (.bool true)∧∃ w1,Below w.heap.size w w1∧w'=w1.setCell ⟨t,0,none⟩ (.pointer (some e)):=by
 refine (as_link e ⟨t,0,none⟩ old w hg (ht.cell 0) (ht.frozen 0)).mono ?_;rintro ev _ ⟨rfl,rfl⟩;exact ⟨rfl,_,(((((Below.refl _ w).alloc (Nat.le_refl _) _).alloc (by simp only [World.size_alloc]; omega) _).alloc (by simp only [World.size_alloc]; omega) _).alloc (by simp only [World.size_alloc]; omega) _),rfl⟩
theorem as_words2 {e t:Addr} {w:World} (hg:w.cell? ⟨0,0,none⟩=some (.iface 474 (.agg #[.pointer (some ⟨6,415,none⟩)]))) :
  Calls Tryz.prog 371 #[.iface 441 (.pointer (some e)),.iface 446 (.pointer (some t))] w fun ev w'=>ev=.returned (.bool false)∧Below w.heap.size w w':=by
 refine (as_words e t w hg).mono ?_;rintro ev _ ⟨rfl,rfl⟩;exact ⟨rfl,(((Below.refl _ w).alloc (Nat.le_refl _) _).alloc (by simp only [World.size_alloc]; omega) _).alloc (by simp only [World.size_alloc]; omega) _⟩
theorem ffamily_hw (w:World):Calls Tryz.prog 398 #[.int .u32 101056512] w fun e w'=>e=.returned (.int .i64 5)∧w=w':=by
 go_enter Tryz.func398,Tryz.ntmps398
 go_wp2_with fail
 go_ret
 exact ⟨rfl,rfl⟩
theorem fcounts_hw (w:World):Calls Tryz.prog 396 #[.int .u32 101056512] w fun e w'=>e=.returned (.int .u32 101056512)∧w=w':=by
 have F:=Lib.hid (fun w=>ffamily_hw w);go_enter Tryz.func396,Tryz.ntmps396
 go_wp2_with fail
 refine (F.out _).mono ?_;rintro e _ ⟨rfl,rfl⟩;go_wp2_with fail
 go_ret
 exact ⟨rfl,rfl⟩
structure FlB (w:World) (base p q:Nat) (x:ByteArray):Prop where
 bp:base≤p
 bq:base≤q
 link:Blk w p 448 #[.int .u32 101056512,.iface 441 (.pointer (some ⟨q,0,none⟩))]
 words:Blk w q 443 #[.string x]
theorem FlB.below {w w':World} {base p q:Nat} {x:ByteArray} (h:FlB w base p q x) (hb:Below w.heap.size w w'):FlB w' base p q x:=⟨h.bp,h.bq,h.link.later hb,h.words.later hb⟩
def fltV (p:Nat):Value:=.agg #[.iface 444 (.pointer (some ⟨p,0,none⟩))]
theorem fof_any (x:ByteArray) (w:World):Calls Tryz.prog 385 #[.int .u32 101056512,.string x] w fun e w'=>∃ p q,e=.returned (fltV p)∧FlB w' w.heap.size p q x∧Below w.heap.size w w':=by
 have C:=Lib.hid (fun w=>fcounts_hw w);have b1:=alloc_one w (.cells #[.nilIface] 417);have K1:=Blk.new w 417 #[.nilIface];go_enter Tryz.func385,Tryz.ntmps385
 go_wp2_with fail
 refine (C.out _).mono ?_;rintro e _ ⟨rfl,rfl⟩;generalize hw1:w.alloc (.cells #[.nilIface] 417)=w1 at *;have hs1:w1.heap.size=w.heap.size + 1:=by rw [← hw1,World.size_alloc]
 have b2:=alloc_one w1 (.cells #[.string x] 443);have K2:=Blk.new w1 443 #[.string x];have b3:=alloc_one (w1.alloc (.cells #[.string x] 443)) (.cells #[.int .u32 101056512,.iface 441 (.pointer (some ⟨w1.heap.size,0,none⟩))] 448);have K3:=Blk.new (w1.alloc (.cells #[.string x] 443)) 448 #[.int .u32 101056512,.iface 441 (.pointer (some ⟨w1.heap.size,0,none⟩))];have K23:=K2.later b3;have K1':=(K1.later b2).later b3;rw [World.size_alloc] at K3;have kc:w1.cell? ⟨w.heap.size,0,none⟩=some .nilIface:=K1.cell 0;have kf:=K1.frozen 0;have kc2:((w1.alloc (.cells #[.string x] 443)).alloc (.cells #[.int .u32 101056512,.iface 441 (.pointer (some ⟨w1.heap.size,0,none⟩))] 448)).cell? ⟨w.heap.size,0,none⟩=some .nilIface:=K1'.cell 0;have kf2:=K1'.frozen 0;have d3:=below_step (below_step b1 b2 (Nat.le_refl _)) b3 (Nat.le_refl _);have HS:=Lib.hid hs1;clear hs1 hw1;go_wp2_with fail
 have KS:=K1'.set_ 0 (.iface 444 (.pointer (some ⟨w1.heap.size + 1,0,none⟩)));have s0:=KS.cell 0;have hs1:=HS.out;have d4:=d3.setCell (p:=⟨w.heap.size,0,none⟩) (Nat.le_refl _) (.iface 444 (.pointer (some ⟨w1.heap.size + 1,0,none⟩)));refine bodyPost_ret (v:=fltV (w1.heap.size + 1)) (by simp [results,Tryz.results385,go_sem,s0,fltV]) rfl ⟨w1.heap.size + 1,w1.heap.size,rfl,⟨by omega,by omega,?_,?_⟩,d4⟩
 ·exact K3.far (p:=⟨w.heap.size,0,none⟩) (by dsimp only; omega) _
 ·exact K23.far (p:=⟨w.heap.size,0,none⟩) (by dsimp only; omega) _
theorem fdepth1_any (n:Nat) (k:Nat) (v:Value) (w:World) (h:Blk w n 3 #[.int .i64 (k:Int)]) (hk:k < 1000):Calls Tryz.prog 369 #[v,.pointer (some ⟨n,0,none⟩)] w fun e w'=>e=.returned (.tuple #[])∧w'=w.setCell ⟨n,0,none⟩ (.int .i64 ((k + 1:Nat):Int)):=by
 have c0:=h.cell 0;have f0:=h.frozen 0;clear h;go_enter Tryz.func369,Tryz.ntmps369
 go_wp2_with fail
 go_end0
 exact ⟨rfl,by first | rfl | go_num⟩
def flt0:Value:=.agg #[.nilIface]
def ErrG (w:World):Prop:=w.cell? ⟨0,0,none⟩=some (.iface 474 (.agg #[.pointer (some ⟨6,415,none⟩)]))
theorem ErrG.mv {w w':World} {F:Nat→Prop} (h:ErrG w) (hm:Mv F w w') (h0:¬ F 0):ErrG w':=by
 have hlt:0 < w.heap.size:=by
  rcases Nat.eq_zero_or_pos w.heap.size with h0 | h1
  ·unfold ErrG at h; simp [World.cell?,h0] at h
  ·exact h1
 have hb:=hm.block 0 hlt h0;unfold ErrG at *;rw [← h];simp only [World.cell?];rw [hb]
theorem ErrG.below {w w':World} (h:ErrG w) (hb:Below w.heap.size w w'):ErrG w':=h.mv (Mv.of_new hb fun _=>False) id
theorem feach_nil (f:Value) (w:World):Calls Tryz.prog 368 #[flt0,f] w fun e w'=>e=.returned (.tuple #[])∧Below w.heap.size w w':=by
 have b2:=alloc_two w (.cells #[.nilIface] 417) (.cells #[.pointer none] 444);unfold flt0;go_enter Tryz.func368,Tryz.ntmps368
 go_wp2_with fail
 refine wp_loop_rounds 1 ?_;rw [rounds_succ];go_wp2_with fail
 go_end0
 exact ⟨rfl,b2⟩
theorem feach_link {n base p q:Nat} {x:ByteArray} (w:World) (hg:ErrG w) (hn:Blk w n 3 #[.int .i64 0]) (hf:FlB w base p q x):Calls Tryz.prog 368 #[fltV p,.func (.func 369) #[] #[.pointer (some ⟨n,0,none⟩)]] w fun e w'=>e=.returned (.tuple #[])∧Mv (fun b=>b=n) w w'∧Blk w' n 3 #[.int .i64 1]:=by
 have b1:=alloc_one w (.cells #[.iface 444 (.pointer (some ⟨p,0,none⟩))] 417);have b2:=alloc_one (w.alloc (.cells #[.iface 444 (.pointer (some ⟨p,0,none⟩))] 417)) (.cells #[.pointer none] 444);have KL:=Blk.new (w.alloc (.cells #[.iface 444 (.pointer (some ⟨p,0,none⟩))] 417)) 444 #[.pointer none];rw [World.size_alloc] at KL;have d2:=below_step b1 b2 (Nat.le_refl _);have AS:=Lib.hid (as_link2 (e:=⟨p,0,none⟩) (hg.below d2) KL);have HG:=Lib.hid hg;have HN:=Lib.hid hn;have HFL:=Lib.hid hf;have HKL:=Lib.hid KL;have D2:=Lib.hid d2;clear hg hn hf KL d2 b1 b2;unfold fltV;go_enter Tryz.func368,Tryz.ntmps368
 go_wp2_with fail
 generalize (w.alloc (.cells #[.iface 444 (.pointer (some ⟨p,0,none⟩))] 417)).alloc (.cells #[.pointer none] 444)=wa at *;refine wp_loop_rounds 2 ?_;rw [rounds_succ];go_wp2_with fail
 refine (AS.out).mono ?_;rintro e _ ⟨rfl,w3,b3,rfl⟩;have d3:=D2.out.trans (b3.mono D2.out.size);have K3:=HKL.out.later b3;have KS:=K3.set_ 0 (.pointer (some ⟨p,0,none⟩));have hnl:=HN.out.lt;have hpl:=HFL.out.link.lt;have hql:=HFL.out.words.lt;have d4:=d3.setCell (p:=⟨w.heap.size + 1,0,none⟩) (Nat.le_succ _) (.pointer (some ⟨p,0,none⟩));have F4:=HFL.out.below d4;have N4:=HN.out.later d4;have G4:=HG.out.below d4;generalize w3.setCell ⟨w.heap.size + 1,0,none⟩ (.pointer (some ⟨p,0,none⟩))=w4 at *;have s0:w4.cell? ⟨w.heap.size + 1,0,none⟩=some (.pointer (some ⟨p,0,none⟩)):=KS.cell 0;have p0:w4.cell? ⟨p,0,none⟩=some (.int .u32 101056512):=F4.link.cell 0;have p1:w4.cell? ⟨p,1,none⟩=some (.iface 441 (.pointer (some ⟨q,0,none⟩))):=F4.link.cell 1;have DP:=Lib.hid (fdepth1_any n 0 (.int .u32 101056512) w4 N4 (by decide));have HKS:=Lib.hid KS;have HF4:=Lib.hid F4;have HN4:=Lib.hid N4;have HG4:=Lib.hid G4;have D4:=Lib.hid d4;clear AS D2 KS F4 N4 G4 K3 b3 d3 d4;go_wp2_with fail
 refine (DP.out).mono ?_;rintro e _ ⟨rfl,rfl⟩;have hnp:n≠p:=HN4.out.ne_ HF4.out.link (by decide);have hnL:n≠w.heap.size + 1:=by omega
 have K5:=HKS.out.far (p:=⟨n,0,none⟩) (fun e=>hnL e.symm) (.int .i64 ((0 + 1:Nat):Int));have L5:=HF4.out.link.far (p:=⟨n,0,none⟩) (fun e=>hnp e.symm) (.int .i64 ((0 + 1:Nat):Int));have N5:=HN4.out.set_ 0 (.int .i64 ((0 + 1:Nat):Int));have M5:Mv (fun b=>b=n) w (w4.setCell ⟨n,0,none⟩ (.int .i64 ((0 + 1:Nat):Int))):=(Mv.of_new D4.out _).trans (Mv.setCell w4 ⟨n,0,none⟩ _) fun _ _ e=>e
 have h0n:n≠0:=fun e=>by
  have h4:=HN4.out;have hg4:=HG4.out;subst e;unfold ErrG at hg4;have:=h4.cell 0;rw [hg4] at this;simp at this
 have G5:ErrG (w4.setCell ⟨n,0,none⟩ (.int .i64 ((0 + 1:Nat):Int))):=HG4.out.mv (Mv.setCell w4 ⟨n,0,none⟩ (.int .i64 ((0 + 1:Nat):Int))) (fun e=>h0n e.symm);generalize w4.setCell ⟨n,0,none⟩ (.int .i64 ((0 + 1:Nat):Int))=w5 at *;have t0:w5.cell? ⟨w.heap.size + 1,0,none⟩=some (.pointer (some ⟨p,0,none⟩)):=K5.cell 0;have t1:w5.cell? ⟨p,1,none⟩=some (.iface 441 (.pointer (some ⟨q,0,none⟩))):=L5.cell 1;have AW:=Lib.hid (as_words2 (e:=⟨q,0,none⟩) (t:=⟨w.heap.size + 1,0,none⟩) G5);have HF:=Lib.hid (And.intro M5 N5);clear K5 L5 N5 M5 G5 HKS HF4 HN4 HG4 D4 s0 p0 p1;go_wp2_with fail
 rw [rounds_succ];go_wp2_with fail
 refine (AW.out).mono ?_;rintro e w6 ⟨rfl,b6⟩;go_wp2_with fail
 go_end0
 exact ⟨rfl,HF.out.1.trans (Mv.of_new b6 _) fun _ _ e=>e,HF.out.2.later b6⟩
theorem fdepth_nil (w:World):Calls Tryz.prog 342 #[flt0] w fun e w'=>e=.returned (.int .i64 0)∧Below w.heap.size w w':=by
 have b1:=alloc_one w (.cells #[.nilIface] 417);have K1:=Blk.new w 417 #[.nilIface];have b2:=alloc_one (w.alloc (.cells #[.nilIface] 417)) (.cells #[.int .i64 0] 3);have K2:=Blk.new (w.alloc (.cells #[.nilIface] 417)) 3 #[.int .i64 0];rw [World.size_alloc] at K2;have C1:=(K1.later b2).cell 0;have E:=Lib.hid (feach_nil (.func (.func 369) #[] #[.pointer (some ⟨w.heap.size + 1,0,none⟩)]) ((w.alloc (.cells #[.nilIface] 417)).alloc (.cells #[.int .i64 0] 3)));have d2:=below_step b1 b2 (Nat.le_refl _);unfold flt0 at *;go_enter Tryz.func342,Tryz.ntmps342
 go_wp2_with fail
 refine (E.out).mono ?_;rintro e w3 ⟨rfl,b3⟩;have K3:w3.cell? ⟨w.heap.size + 1,0,none⟩=some (.int .i64 0):=(K2.later b3).cell 0;go_wp2_with fail
 go_ret
 exact ⟨rfl,below_step d2 b3 (Nat.le_refl _)⟩
theorem fdepth_link {base p q:Nat} {x:ByteArray} (w:World) (hg:ErrG w) (hf:FlB w base p q x):Calls Tryz.prog 342 #[fltV p] w fun e w'=>e=.returned (.int .i64 1)∧Below w.heap.size w w':=by
 have b1:=alloc_one w (.cells #[.iface 444 (.pointer (some ⟨p,0,none⟩))] 417);have b2:=alloc_one (w.alloc (.cells #[.iface 444 (.pointer (some ⟨p,0,none⟩))] 417)) (.cells #[.int .i64 0] 3);have K2:=Blk.new (w.alloc (.cells #[.iface 444 (.pointer (some ⟨p,0,none⟩))] 417)) 3 #[.int .i64 0];rw [World.size_alloc] at K2;have d2:=below_step b1 b2 (Nat.le_refl _);have E:=Lib.hid (feach_link _ (hg.below d2) K2 (hf.below d2));clear hg hf K2;unfold fltV at *;go_enter Tryz.func342,Tryz.ntmps342
 go_wp2_with fail
 refine (E.out).mono ?_;rintro e w3 ⟨rfl,m3,N3⟩;have K3:w3.cell? ⟨w.heap.size + 1,0,none⟩=some (.int .i64 1):=N3.cell 0;have d3:Below w.heap.size w w3:=by
  have hs:=d2.size;refine ((Mv.of_below d2).trans m3 fun b _ e=>?_).below (Nat.le_refl _) fun _ h=>h
  have e2:b=w.heap.size + 1:=e;omega
 clear E;go_wp2_with fail
 go_ret
 exact ⟨rfl,d3⟩
theorem fsays_nil (x:ByteArray) (w:World):Calls Tryz.prog 343 #[flt0,.string x] w fun e w'=>e=.returned (.bool false)∧Below w.heap.size w w':=by
 have b1:=alloc_one w (.cells #[.nilIface] 417);unfold flt0;go_enter Tryz.func343,Tryz.ntmps343
 go_wp2_with fail
 go_ret
 exact ⟨rfl,b1⟩
theorem fsays_link {base p q:Nat} {x:ByteArray} (y:ByteArray) (w:World) (hf:FlB w base p q x):Calls Tryz.prog 343 #[fltV p,.string y] w fun e w'=>e=.returned (.bool (y.toList == x.toList))∧Below w.heap.size w w':=by
 have b1:=alloc_one w (.cells #[.iface 444 (.pointer (some ⟨p,0,none⟩))] 417);have b2:=alloc_one (w.alloc (.cells #[.iface 444 (.pointer (some ⟨p,0,none⟩))] 417)) (.cells #[.string y] 443);have K2:=Blk.new (w.alloc (.cells #[.iface 444 (.pointer (some ⟨p,0,none⟩))] 417)) 443 #[.string y];rw [World.size_alloc] at K2;have d2:=below_step b1 b2 (Nat.le_refl _);have hql:=hf.words.lt;have IS:=Lib.hid (is_link _ (hf.below d2).link (hf.below d2).words K2 (by omega));clear hf K2;generalize (y.toList == x.toList)=b at *;unfold fltV;go_enter Tryz.func343,Tryz.ntmps343
 go_wp2_with fail
 refine (IS.out).mono ?_;rintro e w3 ⟨rfl,b3⟩;go_wp2_with fail
 go_ret
 exact ⟨rfl,below_step d2 b3 (Nat.le_refl _)⟩
theorem fcode_nil (w:World):Calls Tryz.prog 344 #[flt0] w fun e w'=>e=.returned (.int .u32 0)∧Below w.heap.size w w':=by
 have b1:=alloc_two w (.cells #[.nilIface] 417) (.cells #[.pointer none] 444);unfold flt0;go_enter Tryz.func344,Tryz.ntmps344
 go_wp2_with fail
 go_ret
 exact ⟨rfl,b1⟩
theorem fcode_link {base p q:Nat} {x:ByteArray} (w:World) (hg:ErrG w) (hf:FlB w base p q x):Calls Tryz.prog 344 #[fltV p] w fun e w'=>e=.returned (.int .u32 101056512)∧Below w.heap.size w w':=by
 have b1:=alloc_one w (.cells #[.iface 444 (.pointer (some ⟨p,0,none⟩))] 417);have b2:=alloc_one (w.alloc (.cells #[.iface 444 (.pointer (some ⟨p,0,none⟩))] 417)) (.cells #[.pointer none] 444);have KL:=Blk.new (w.alloc (.cells #[.iface 444 (.pointer (some ⟨p,0,none⟩))] 417)) 444 #[.pointer none];rw [World.size_alloc] at KL;have d2:=below_step b1 b2 (Nat.le_refl _);have AS:=Lib.hid (as_link2 (e:=⟨p,0,none⟩) (hg.below d2) KL);have HFL:=Lib.hid (hf.below d2);have HKL:=Lib.hid KL;have D2:=Lib.hid d2;clear hg hf KL d2 b1 b2;unfold fltV;go_enter Tryz.func344,Tryz.ntmps344
 go_wp2_with fail
 generalize (w.alloc (.cells #[.iface 444 (.pointer (some ⟨p,0,none⟩))] 417)).alloc (.cells #[.pointer none] 444)=wa at *;refine (AS.out).mono ?_;rintro e _ ⟨rfl,w3,b3,rfl⟩;have d3:=D2.out.trans (b3.mono D2.out.size);have K3:=HKL.out.later b3;have KS:=K3.set_ 0 (.pointer (some ⟨p,0,none⟩));have d4:=d3.setCell (p:=⟨w.heap.size + 1,0,none⟩) (Nat.le_succ _) (.pointer (some ⟨p,0,none⟩));have F3:=HFL.out.below b3;have L4:=F3.link.far (p:=⟨w.heap.size + 1,0,none⟩) (F3.link.ne_ K3 (by decide)) (.pointer (some ⟨p,0,none⟩));have s0:(w3.setCell ⟨w.heap.size + 1,0,none⟩ (.pointer (some ⟨p,0,none⟩))).cell? ⟨w.heap.size + 1,0,none⟩=some (.pointer (some ⟨p,0,none⟩)):=KS.cell 0;have p0:(w3.setCell ⟨w.heap.size + 1,0,none⟩ (.pointer (some ⟨p,0,none⟩))).cell? ⟨p,0,none⟩=some (.int .u32 101056512):=L4.cell 0;generalize w3.setCell ⟨w.heap.size + 1,0,none⟩ (.pointer (some ⟨p,0,none⟩))=w4 at *;clear AS D2 KS K3 b3 d3 F3 L4;go_wp2_with fail
 go_ret
 exact ⟨rfl,d4⟩
end Go.Proofs.YtijegngfclkdaaaGreatDoor
