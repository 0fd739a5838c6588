/-
  TopTakes: whatever its input, the law answers true, and each argument reads behind the call as it read before.
  Conditions: none.
-/
import Derived.LaidLaws
import Derived.LaidHandle
import Derived.LaidMore
import Derived.LaidSub
import Derived.Stop.Joined
import Derived.Test.YtijegngfclkdaaaGreatDoorQ46
import Derived.Test.YtijegngfclkdaaaGreatDoorQ47
set_option linter.unusedVariables false
set_option linter.unusedSimpArgs false
set_option maxHeartbeats 100000000
set_option maxRecDepth 100000
namespace Go.Proofs.YtijegngfclkdaaaGreatDoor.Nn
open Go Go.ChangeShapes Go.WideShapes Go.ChangeAt Go.RowKit
section
variable {H:Type} {enc:TypeId×Value->H} {w:World} {spare:Nat->Bool} {held:Bool}
theorem BR {fuel:Nat} {cs:List Value} {x:DataW H×List MemPlace} (h:DataW.trod enc Tryz.prog w 0 spare held fuel 41 cs=some x):∃ o,RY w w.heap.size o cs:=by
 have h17:cs.length=17:=pg Tryz.underlying41 h (by kernel_rfl)
 match cs,h17 with
 | [v0,v1,v2,v3,v4,v5,v6,v7,v8,v9,v10,v11,v12,v13,v14,v15,v16],_ =>
  obtain ⟨_,_,t0⟩:=aS Tryz.underlying41 h 0 3 0 v0 rfl (by kernel_rfl) rfl;obtain ⟨_,_,tV⟩:=gW Tryz.underlying41 h 1 34 1 3 rfl (by kernel_rfl);obtain ⟨_,_,t4⟩:=aS Tryz.underlying41 h 2 5 4 v4 rfl (by kernel_rfl) rfl;obtain ⟨_,_,t5⟩:=aS Tryz.underlying41 h 3 5 5 v5 rfl (by kernel_rfl) rfl;obtain ⟨_,_,t6⟩:=aS Tryz.underlying41 h 4 3 6 v6 rfl (by kernel_rfl) rfl;obtain ⟨_,_,t7⟩:=aS Tryz.underlying41 h 5 35 7 v7 rfl (by kernel_rfl) rfl;obtain ⟨_,_,tE⟩:=gW Tryz.underlying41 h 6 39 8 9 rfl (by kernel_rfl);obtain ⟨_,_,t1⟩:=aS Tryz.underlying34 tV 0 3 0 v1 rfl (by kernel_rfl) rfl;obtain ⟨_,_,t2⟩:=aS Tryz.underlying34 tV 1 3 1 v2 rfl (by kernel_rfl) rfl;obtain ⟨_,_,t3⟩:=aS Tryz.underlying34 tV 2 25 2 v3 rfl (by kernel_rfl) rfl;obtain ⟨_,_,t8⟩:=aS Tryz.underlying39 tE 0 3 0 v8 rfl (by kernel_rfl) rfl;obtain ⟨_,_,tF⟩:=gW Tryz.underlying39 tE 1 37 1 3 rfl (by kernel_rfl);obtain ⟨_,_,tW⟩:=gW Tryz.underlying39 tE 2 34 4 3 rfl (by kernel_rfl);obtain ⟨_,_,t15⟩:=aS Tryz.underlying39 tE 3 3 7 v15 rfl (by kernel_rfl) rfl;obtain ⟨_,_,t16⟩:=aS Tryz.underlying39 tE 4 35 8 v16 rfl (by kernel_rfl) rfl;obtain ⟨_,_,t9⟩:=aS Tryz.underlying37 tF 0 3 0 v9 rfl (by kernel_rfl) rfl;obtain ⟨_,_,t10⟩:=aS Tryz.underlying37 tF 1 4 1 v10 rfl (by kernel_rfl) rfl;obtain ⟨_,_,t11⟩:=aS Tryz.underlying37 tF 2 25 2 v11 rfl (by kernel_rfl) rfl;obtain ⟨_,_,t12⟩:=aS Tryz.underlying34 tW 0 3 0 v12 rfl (by kernel_rfl) rfl;obtain ⟨_,_,t13⟩:=aS Tryz.underlying34 tW 1 3 1 v13 rfl (by kernel_rfl) rfl;obtain ⟨_,_,t14⟩:=aS Tryz.underlying34 tW 2 25 2 v14 rfl (by kernel_rfl) rfl;obtain ⟨z0,rfl,_⟩:=bC Tryz.underlying3 t0;obtain ⟨z1,rfl,_⟩:=bC Tryz.underlying3 t1;obtain ⟨z2,rfl,_⟩:=bC Tryz.underlying3 t2;obtain ⟨A3,n3,c3,rfl⟩:=iI Tryz.underlying25 t3;obtain ⟨z4,rfl,_⟩:=bC Tryz.underlying5 t4;obtain ⟨z5,rfl,_⟩:=bC Tryz.underlying5 t5;obtain ⟨z6,rfl,_⟩:=bC Tryz.underlying3 t6;obtain ⟨z7,rfl,_⟩:=bC Tryz.underlying35 t7;obtain ⟨z8,rfl,_⟩:=bC Tryz.underlying3 t8;obtain ⟨z9,rfl,_⟩:=bC Tryz.underlying3 t9;obtain ⟨z10,rfl⟩:=lZ Tryz.underlying4 t10;obtain ⟨A11,n11,c11,b11,rfl,r11⟩:=ka Tryz.underlying25 Tryz.underlying5 (by kernel_rfl) t11;obtain ⟨z12,rfl,_⟩:=bC Tryz.underlying3 t12;obtain ⟨V_,rfl,_⟩:=bC Tryz.underlying3 t13;obtain ⟨A14,n14,c14,b14,rfl,r14⟩:=ka Tryz.underlying25 Tryz.underlying5 (by kernel_rfl) t14;obtain ⟨Ld,rfl,_⟩:=bC Tryz.underlying3 t15;obtain ⟨Um,rfl,_⟩:=bC Tryz.underlying35 t16;exact ⟨⟨n3,⟨z8,z9,z10,A11,n11,c11,z12,V_,A14,n14,c14⟩,b11,b14⟩,z0,z1,z2,A3,c3,z4,z5,z6,z7,Ld,Um,rfl,r11,r14⟩
theorem Cd {fuel:Nat} {v:Value} {x:DataW H×List MemPlace} (h:DataW.trod enc Tryz.prog w 0 spare held fuel 22 [v]=some x):∃ A n c os,v=.slice A n c/\Ay w w.heap.size w.heap.size A n c os:=by
 obtain ⟨A,n,c,rfl⟩:=iI Tryz.underlying22 h;obtain ⟨fs,xs,h1,h2,h3⟩:=ml (RY w w.heap.size) Tryz.underlying22 (size:=17) (by kernel_rfl) (by decide) (fun n cs y hy=>BR hy) h;exact ⟨A,n,c,fs,rfl,xs,h2,h3⟩
theorem xK {r:Reach} {b0:Nat} {v:Value} {d:DataW H} {p:List MemPlace} (hv:Value.okWide Tryz.prog w r b0 57 v) (h:DataW.Trod enc Tryz.prog w 0 spare held 57 v d p) :
  ∃ (A0 A1:Option Addr) (n0 c0 n1 c1:Nat) (es:List aD.En) (os:List Kn),v=.agg #[.slice A0 n0 c0,.slice A1 n1 c1]/\qX w w.heap.size w.heap.size A0 n0 c0 es/\(∀ e∈es,e.name.length<=9223372036854775807)/\Ay w w.heap.size w.heap.size A1 n1 c1 os:=by
 obtain ⟨cs,rfl,hsz⟩:=okWide_struct Tryz.underlying57 hv;obtain ⟨fuel,hf⟩:=h;have hf':DataW.trod enc Tryz.prog w 0 spare held fuel 57 cs.toList=some (d,p):=by simpa [Value.cells] using hf
 have h3:cs.toList.length=2:=pg Tryz.underlying57 hf' (by kernel_rfl);obtain ⟨l,hl⟩:∃ l,l=cs.toList:=⟨_,rfl⟩;rw [<- hl] at h3 hf'
 match l,h3 with
 | [a,b],_ =>
  obtain ⟨_,_,t0⟩:=aS Tryz.underlying57 hf' 0 28 0 a rfl (by kernel_rfl) rfl;obtain ⟨_,_,t1⟩:=aS Tryz.underlying57 hf' 1 22 1 b rfl (by kernel_rfl) rfl;obtain ⟨A0,n0,c0,es,rfl,r0,r0'⟩:=sH t0;obtain ⟨A1,n1,c1,os,rfl,r1⟩:=Cd t1;refine ⟨A0,A1,n0,c0,n1,c1,es,os,?_,r0,r0',r1⟩;rw [<- Array.toArray_toList (xs:=cs),<- hl]
end
end Go.Proofs.YtijegngfclkdaaaGreatDoor.Nn
namespace Go.Proofs.YtijegngfclkdaaaGreatDoor.topTakes
open Go.ChangeShapes Go.WideShapes Go.ChangeAt Go.RowKit
set_option maxRecDepth 100000
theorem over (hl:FX):Rows.TopTakesSaid :=
 OpenClaim.holds_of_wide 4 Tryz.f4 rfl rfl rfl rfl rfl rfl rfl ⟨rfl,rfl,rfl,rfl,rfl⟩ rfl rfl rfl rfl rfl GV Tryz.func4 Js Rl qU (fun os started H enc _=>hl os started H enc)
theorem UH (hl:FX):Rows.TopTakesCardSaid :=
 Claim7.holds_tied_plain_at .later [] [.handle, .sentinel, .sentinel, .sentinel, .sentinel, .sentinel] true (true, "83085b0298ed7774a964b80ec3228fd87be6d917ffc6020e1cebf76f8de04c4b") true
  (over hl) (fun _ h=>by cases h) H9 (fun _ h=>by cases h) topTakes_row_tie rfl ⟨rfl,rfl⟩ Qt rfl
  (fun f fn hf hfn=>by
   obtain rfl:f=4:=(Option.some.inj (GV.symm.trans hf)).symm;obtain rfl:fn=Tryz.f4:=(Option.some.inj (Tryz.func4.symm.trans hfn)).symm;exact ⟨MK,fun j t ht=>by
    rw [Tryz.params4] at ht;have hm:t∈[57,25]:=by simpa using Array.mem_of_getElem? ht
    exact (show Tryz.prog.wantsStandIn t=false by simpa using List.all_eq_true.1 Nr t hm)⟩)
  Rn
open Nn
def yF:List (String×DataW Unit):=Rows.topTakesRow.laid
theorem DL (os:Os) (args:Array Value):laidMetH Tryz.prog yF ((World.doorLaid Tryz.prog 111 os).forCall (fun _ _=>0) ⟨#[],args,[]⟩).memory :=
 laidMetH_of_parts3 (fuel:=8) (laidMet_of_run' 8 (by kernel_rfl) (by kernel_rfl)) (by kernel_rfl) (by kernel_rfl)
theorem own:ownKnob Tryz.prog.godebug=none:=by kernel_rfl
theorem laidOut:laidOutB Tryz.prog=true:=by kernel_rfl
theorem lifted (os:Os) (started:os.Started) (H:Type) (enc:TypeId×Value->H) :
  ReturnsInHanded {} Tryz.checked os 4 .any (fun w args=>(Rows.topTakesSpec.pre enc Tryz.prog Tryz.f4 [] false w args/\laidMetH Tryz.prog yF w)/\sizedMet enc Tryz.prog Tryz.f4 (OpenSpec.ofChange Rows.topTakesSpec) false w args)
   (Rows.topTakesSpec.post enc Tryz.prog Tryz.f4 false true false false):=by
 refine returnsInHanded_of_change_and (C:=Tryz.checked) (X:=fun w _=>laidMetH Tryz.prog yF w) (fun _ _ _ hh h=>h.of_heap hh) own started (by kernel_rfl) Tryz.func4
  (ChangeSpec.witness_shaped (enc:=enc) (C:=Tryz.checked) (os:=os) (X:=fun w _=>laidMetH Tryz.prog yF w) false (World.doorLaid Tryz.prog 111 os) #[.agg #[.slice none 0 0,.slice none 0 0],.slice none 0 0] 8 rfl (World.shaped_of_RefB (by kernel_rfl) (by kernel_rfl)) (by kernel_rfl) (by kernel_rfl) (by kernel_rfl) (DL os _)) ?_
 intro W base args ds gs before hval0 hW _ _ _ _;have hval:∀ (j:Nat) t v,Tryz.f4.params[j]?=some t->args[j]?=some v->Value.okWide Tryz.prog W .any base t v:=hval0;have hW':=hW;obtain ⟨p,q,Pu,hV,rfl,hfz,hnd⟩:=hW;have hA:DataW.TrodAll enc Tryz.prog W 0 (fun _=>true) true Tryz.f4.params.toList args.toList ds p:=Pu;rw [Tryz.params4] at hA hval;obtain ⟨v0,vs0,d0,ds0,p0,q0,hargs,rfl,rfl,h0,r0⟩:=trodAll_cons hA;obtain ⟨v1,vs1,d1,ds1,p1,q1,rfl,rfl,rfl,h1,r1⟩:=trodAll_cons r0;obtain ⟨rfl,rfl,rfl⟩:=trodAll_nil r1;obtain rfl:args=#[v0,v1]:=by cases args; simp_all
 obtain ⟨rfl,rfl⟩:=trodVars_none hV;have k0:=h0;have lt0:∀ x∈p0,x.block < W.heap.size:=by obtain ⟨m,hm⟩:=k0; exact DataW.trod_lt m _ _ _ hm
 obtain ⟨A0,A2,n0,c0,n2,c2,es,ops,rfl,re,rn,ro⟩:=xK (hval 0 57 v0 rfl rfl) h0;obtain ⟨A1,n1,c1,rfl⟩:=okWide_slice Tryz.underlying25 (hval 1 25 v1 rfl rfl);have k1:=h1;have lt1:∀ x∈p1,x.block < W.heap.size:=by obtain ⟨m,hm⟩:=k1; exact DataW.trod_lt m _ _ _ hm
 obtain ⟨l1,rb⟩:∃ l,RB W W.heap.size A1 n1 c1 l:=by
  obtain ⟨fuel,hf⟩:=h1;exact o_ Tryz.underlying25 Tryz.underlying5 (by kernel_rfl) (by simpa [Value.cells] using hf)
 clear Pu hval0;refine (Dl W re rn ro rb).mono fun e W' ⟨he,SA⟩=>?_
 subst he;exact ⟨_,rfl,_,_,_,[],_,[],hW',trodAll_mk1 (shut_bool Tryz.underlying4 _),(trodAll_cons_mk (Below.trod laidOut (by kernel_rfl) (of_decide_eq_true (by kernel_rfl)) k0 SA lt0) (trodAll_cons_mk (Below.trod laidOut (by kernel_rfl) (of_decide_eq_true (by kernel_rfl)) k1 SA lt1) trodAll_mk0)),rfl,SA.frame _,fun h=>by cases h⟩
theorem proved:Rows.TopTakesCardSaid:=UH fun os started H enc=>lifted os started H enc
#print axioms proved
end Go.Proofs.YtijegngfclkdaaaGreatDoor.topTakes
