/-
  Pieces of the proof: part 28 of 54.
  Conditions: none.
-/
import Derived.Test.YtijegngfclkdaaaGreatDoorW20
import Derived.Test.YtijegngfclkdaaaGreatDoorW21
import Derived.Test.YtijegngfclkdaaaGreatDoorW25
import Derived.Test.YtijegngfclkdaaaGreatDoorW26
import Derived.Test.YtijegngfclkdaaaGreatDoorW27
set_option linter.unusedVariables false
set_option linter.unusedSimpArgs false
set_option maxHeartbeats 100000000
set_option maxRecDepth 100000
namespace Go.Proofs.YtijegngfclkdaaaGreatDoor
open Go.RowKit
section
variable {P:Program} {Q:Exit→Act→World→Prop} {md:Region.Mode} {t:Nat} {C:World→Prop}
structure Cl (C:World→Prop) where
 val:World
 ok:C val
theorem region_cl {id:Nat} {l:List Oper} {a:Act} {w:World} (t:Nat) (C:World→Prop) (hm:P.follows .mixedOrders=true)
  (h:wpAnyL P .any l.toArray (NoPanic Q) t (fun x=>∃ v:Cl C,x=v.val) l.length (Array.replicate l.length false) a w.drew):(Code.region id l.toArray true).wp P Q a w :=
 wp_region_noPanic (wp_region_any hm (by simpa using wpAny_of_L _ _ _ _ h))
theorem phase_cl {l:List Oper} (hsel:Region.noSelect l.toArray=true) (fuel:Nat) {w:World} (hC:C w) (σ:List Nat) {n:Nat} {listed:Array Bool} {a:Act} (hn:n=σ.length + fuel) (hok:okPhaseL md l t listed σ=true)
  (h:wpQuiet P l.toArray (fun x=>∃ v:Cl C,x=v.val) (fun a'=>wpAnyL P md l.toArray (NoPanic Q) t (fun x=>∃ v:Cl C,x=v.val) fuel (after listed σ) a' w) (picks l σ) a) :
  wpAnyL P md l.toArray (NoPanic Q) t (fun x=>∃ v:Cl C,x=v.val) n listed a w:=phaseL_of hsel (fun _ _ _ _ _ h=>h) fuel w ⟨⟨w,hC⟩,rfl⟩ σ listed a hn hok h
theorem behind_cl {l:List Oper} {fuel:Nat} {listed:Array Bool} {a:Act} {w:World} (hC:C w)
  (h:wpAnyL P md l.toArray Q t (fun x=>∃ v:Cl C,x=v.val) fuel listed a w):Qn (fun a' w'=>BehindL P md l Q t (fun x=>∃ v:Cl C,x=v.val) fuel listed a' w') Q .normal a w :=
 ⟨_,⟨⟨w,hC⟩,rfl⟩,fun _ hx=>hx,h⟩
end
theorem set6_row (xs:List Value) (k:Nat) (a b c d e f:Value) (hk:k * 6 + 6≤xs.length):(((((((xs.set (k * 6) a).set (k * 6 + 1) b).set (k * 6 + 2) c).set (k * 6 + 3) d).set (k * 6 + 4) e).set (k * 6 + 5) f).drop (k * 6)).take 6=[a,b,c,d,e,f]:=by
 apply List.ext_getElem?
 intro j;rw [List.getElem?_take]
 by_cases h3:j < 6
 ·rw [if_pos h3,List.getElem?_drop]
  simp only [List.getElem?_set,List.length_set];have:j=0∨j=1∨j=2∨j=3∨j=4∨j=5:=by omega
  rcases this with rfl | rfl | rfl | rfl | rfl | rfl
  ·rw [if_neg (by omega),if_neg (by omega),if_neg (by omega),if_neg (by omega),if_neg (by omega),if_pos (by omega),if_pos (by omega)]; rfl
  ·rw [if_neg (by omega),if_neg (by omega),if_neg (by omega),if_neg (by omega),if_pos (by omega),if_pos (by omega)]; rfl
  ·rw [if_neg (by omega),if_neg (by omega),if_neg (by omega),if_pos (by omega),if_pos (by omega)]; rfl
  ·rw [if_neg (by omega),if_neg (by omega),if_pos (by omega),if_pos (by omega)]; rfl
  ·rw [if_neg (by omega),if_pos (by omega),if_pos (by omega)]; rfl
  ·rw [if_pos (by omega),if_pos (by omega)]; rfl
 ·rw [if_neg h3,List.getElem?_eq_none (by simp; omega)]
theorem set6_other (xs:List Value) (k:Nat) (a b c d e f:Value) (j:Nat) (hj:j < k * 6∨(k + 1) * 6≤j):((((((xs.set (k * 6) a).set (k * 6 + 1) b).set (k * 6 + 2) c).set (k * 6 + 3) d).set (k * 6 + 4) e).set (k * 6 + 5) f)[j]?=xs[j]?:=by
 rw [List.getElem?_set_ne (by omega),List.getElem?_set_ne (by omega),List.getElem?_set_ne (by omega),List.getElem?_set_ne (by omega),List.getElem?_set_ne (by omega),List.getElem?_set_ne (by omega)]
def st6 (w:World) (g p:Nat) (a b c d e f:Value):World:=(((((w.setCell ⟨g,p,none⟩ a).setCell ⟨g,p + 1,none⟩ b).setCell ⟨g,p + 2,none⟩ c).setCell ⟨g,p + 3,none⟩ d).setCell ⟨g,p + 4,none⟩ e).setCell ⟨g,p + 5,none⟩ f
section
variable {w:World} {F:Nat→Prop} {gj gl c now gf:Nat} {A:Option Addr} {xs:List Value} {L:List Jr.Look} {has dead:Bool}
theorem JoM.put (h:JoM w F gj gl A c xs L now has gf dead) {k:Nat} (hk:k < L.length) (f:Jr.Look) {A1:Option Addr} {c1:Nat} (hr:RBp w (Fx F gj gl) A1 f.last.data.length c1 f.last.data) :
  ∃ xs',JoM (st6 w gl (k * 6) (.int .i64 (f.last.kind:Int)) (.int .u32 (f.last.num:Int)) (.slice A1 f.last.data.length c1) (.int .i64 (f.count:Int)) (.int .i64 (f.fin:Int)) (.bool f.clean)) F gj gl A c xs' (L.set k f) now has gf dead:=by
 obtain ⟨q,rfl,_,hq⟩:=h.own.head (by omega);obtain ⟨rfl,hFq⟩:=h.at_ q rfl;have hgl:=h.blk.lt;have s1:=h.own.set (k * 6) (.int .i64 (f.last.kind:Int));have s2:=s1.1.set (k * 6 + 1) (.int .u32 (f.last.num:Int));have s3:=s2.1.set (k * 6 + 2) (.slice A1 f.last.data.length c1);have s4:=s3.1.set (k * 6 + 3) (.int .i64 (f.count:Int));have s5:=s4.1.set (k * 6 + 4) (.int .i64 (f.fin:Int));have s6:=s5.1.set (k * 6 + 5) (.bool f.clean);have gr:=World.grownBy.trans (World.grownBy.trans (World.grownBy.trans (World.grownBy.trans (World.grownBy.trans s1.2 s2.2) s3.2) s4.2) s5.2) s6.2;have hm:Mv (fun b=>b=q) w (st6 w q (k * 6) (.int .i64 (f.last.kind:Int)) (.int .u32 (f.last.num:Int)) (.slice A1 f.last.data.length c1) (.int .i64 (f.count:Int)) (.int .i64 (f.fin:Int)) (.bool f.clean)):=(Mv.of_grown gr).mono fun b _ e=>by injection e
 have hx:∀ b,b < w.heap.size→Fx F gj q b→¬ b=q:=fun b _ hf=>hf.2.2
 have hxl:=h.own.rv.len;refine ⟨_,{ fg:=h.fg,ne:=h.ne,blk:=by rw [List.length_set]; exact h.blk.mv hm h.ne,own:=by rw [List.length_set]; exact s6.1,at_:=by rw [List.length_set]; exact h.at_,rows:=?_ }⟩;refine Rows.put (h.rows.imp fun _ _ k=>k.mv hm hx) (by simp) (fun j hj=>set6_other xs k _ _ _ _ _ _ j hj) ?_;rw [set6_row xs k _ _ _ _ _ _ (by have:(k + 1) * 6≤L.length * 6:=Nat.mul_le_mul_right 6 hk; omega)];exact ⟨A1,c1,rfl,hr.mv hm hx⟩
theorem st6_mv (w:World) (g p:Nat) (a b c d e f:Value):Mv (fun q=>q=g) w (st6 w g p a b c d e f) :=
 (((((Mv.setCell w ⟨g,p,none⟩ a).trans (Mv.setCell _ ⟨g,p + 1,none⟩ b) fun _ _ e=>e).trans (Mv.setCell _ ⟨g,p + 2,none⟩ c) fun _ _ e=>e).trans (Mv.setCell _ ⟨g,p + 3,none⟩ d) fun _ _ e=>e).trans (Mv.setCell _ ⟨g,p + 4,none⟩ e) fun _ _ e=>e).trans (Mv.setCell _ ⟨g,p + 5,none⟩ f) fun _ _ e=>e
theorem JoM.set_ (h:JoM w F gj gl A c xs L now has gf dead) {i:Nat} {u:Value} {now':Nat} {has' dead':Bool} (hc:(jrC A L.length c now has gf dead).setIfInBounds i u=jrC A L.length c now' has' gf dead'):JoM (w.setCell ⟨gj,i,none⟩ u) F gj gl A c xs L now' has' gf dead':=by
 have hm:=Mv.setCell w ⟨gj,i,none⟩ u;refine { fg:=h.fg,ne:=h.ne,blk:=by rw [← hc]; exact h.blk.set_ i u,own:=h.own.off h.blk (by decide),at_:=h.at_,rows:=h.rows.imp fun _ _ k=>k.mv hm fun b _ hf=>hf.2.1 }
end
theorem OV.mvj {w w':World} {G:Nat→Prop} {base e size n c:Nat} {A:Option Addr} {xs:List Value} (h:OV w base e size A n c xs) (hm:Mv G w w') (hd:∀ k,(Value.slice A n c).ownBlock=some k→¬ G k):OV w' base e size A n c xs:=by
 refine ⟨h.1,?_⟩;rcases h.2 with h2 | ⟨k,cap,cur,hv,hg,hh,r⟩
 ·exact .inl h2
 ·have hlt:k < w.heap.size:=(Array.getElem?_eq_some_iff.1 hh).1
  exact .inr ⟨k,cap,cur,hv,hg,(hm.block k hlt (hd k (by rw [hv]; rfl))).trans hh,r⟩
theorem FlM.mv {w w':World} {G:Nat→Prop} {base g n c m c':Nat} {A A':Option Addr} {f:Fla} (h:FlM w base g A n c A' m c' f) (hm:Mv G w w') (hd:∀ q,FF g A n c A' m c' q→¬ G q):FlM w' base g A n c A' m c' f :=
 ⟨h.gb,h.blk.mv hm (hd g (.inl rfl)),OV.mvj h.row hm fun k hk=>hd k (.inr (.inl hk.symm)),OV.mvj h.worn hm fun k hk=>hd k (.inr (.inr hk.symm))⟩
theorem FlM.lt {w:World} {base g n c m c':Nat} {A A':Option Addr} {f:Fla} (h:FlM w base g A n c A' m c' f) {q:Nat} (hq:FF g A n c A' m c' q):q < w.heap.size:=by
 rcases hq with rfl | hq | hq
 ·exact h.blk.lt
 ·exact (h.row.lt q hq.symm).2
 ·exact (h.worn.lt q hq.symm).2
end Go.Proofs.YtijegngfclkdaaaGreatDoor
namespace Go.Proofs.YtijegngfclkdaaaGreatDoor
open Go.RowKit
def eraF (f:Fla) (s:Nat):Fla:={ f with wear:=f.wear.set s (f.wear.getD s 0 + 1),b:=fillF f.b (s * 1024) 1024,ahead:=if 0 < f.ahead then f.ahead - 1 else f.ahead,ops:=f.ops + 1 }
def tornF (f:Fla) (s:Nat):Fla:={ f with wear:=f.wear.set s (f.wear.getD s 0 + 1),b:=fillF f.b (s * 1024) (f.mask.toNat % 1025),ahead:=-1,off:=true }
structure ApO where
 code:Int
 f:Fla
 L:List Jr.Look
 now:Nat
 has:Bool
 dead:Bool
def lkE:Jr.Look:=⟨Jr.noRec,0,0,true⟩
def lkN (r:Jr.Rec) (x:Jr.Look):Jr.Look:=⟨r,x.count + 1,x.fin + (r.data.length + 13),x.clean⟩
def progA (f:Fla) (L:List Jr.Look) (now:Nat) (has:Bool) (at_:Nat) (r:Jr.Rec):ApO :=
 if (progF f (at_ * 1024 + (L.getD at_ lk0).fin) (Jr.buildS r)).2=0 then ⟨0,(progF f (at_ * 1024 + (L.getD at_ lk0).fin) (Jr.buildS r)).1,L.set at_ (lkN r (L.getD at_ lk0)),at_,true,false⟩
 else ⟨7,(progF f (at_ * 1024 + (L.getD at_ lk0).fin) (Jr.buildS r)).1,L,now,has,true⟩
def appA (f:Fla) (L:List Jr.Look) (now:Nat) (has:Bool) (kind:Nat) (data:List UInt8):ApO :=
 if numS L now has=4294967295 then ⟨6,f,L,now,has,false⟩
 else if (placeS f L now has data.length).2.2=false then ⟨10,f,L,now,has,false⟩
 else if (placeS f L now has data.length).2.1=true then
  if f.ahead=0 then ⟨7,tornF f (placeS f L now has data.length).1,L,now,has,true⟩
  else progA (eraF f (placeS f L now has data.length).1) (L.set (placeS f L now has data.length).1 lkE) now has (placeS f L now has data.length).1 ⟨kind,numS L now has + 1,data⟩
 else progA f L now has (placeS f L now has data.length).1 ⟨kind,numS L now has + 1,data⟩
theorem inR_less {f:Fla} {k:Nat} (h:InR f (k + 1)):InR f k:=by unfold InR at *; omega
theorem app_nums {a f c d p:Nat} (ha:a≤8) (hf:f≤1024) (hc:c≤1024) (hd:d≤1024) (hp:p=a * 1024 + f):wrap64 ((a:Int) * 1024)=((a * 1024:Nat):Int)∧wrap64 ((a:Int) * 1024 + (f:Int))=(p:Int)∧wrap64 ((c:Int) + 1)=((c + 1:Nat):Int)∧wrap64 ((f:Int) + (d:Int))=((f + d:Nat):Int):=by
 have e1:(a:Int) * 1024=((a * 1024:Nat):Int):=by omega
 have e2:(a:Int) * 1024 + (f:Int)=(p:Int):=by omega
 refine ⟨by rw [e1]; exact IntWalk.wrap64_in _ (by omega),by rw [e2]; exact IntWalk.wrap64_in _ (by omega),?_,?_⟩
 ·rw [show (c:Int) + 1=((c + 1:Nat):Int) by omega]; exact IntWalk.wrap64_in _ (by omega)
 ·rw [show (f:Int) + (d:Int)=((f + d:Nat):Int) by omega]; exact IntWalk.wrap64_in _ (by omega)
theorem place_lt {f:Fla} {L:List Jr.Look} {now:Nat} {has:Bool} {d:Nat} (hn:has=true→now < L.length) (h:(placeS f L now has d).2.2=true):(placeS f L now has d).1 < L.length:=by
 unfold placeS at *;split at h
 ·rename_i e
  rw [if_pos e];exact hn e.1
 ·rename_i e
  rw [if_neg e];split at h
  ·cases h
  ·rename_i e2
   rw [if_neg e2];exact nxN_lt (by simpa using e2)
theorem place_room {f:Fla} {L:List Jr.Look} {now:Nat} {has:Bool} {d:Nat} (hd:d≤960) (h00:∀ i,(L.getD i lk0).count=0→(L.getD i lk0).fin=0) (h:(placeS f L now has d).2.2=true) (he:(placeS f L now has d).2.1=false):(L.getD (placeS f L now has d).1 lk0).fin + (d + 13)≤1024:=by
 unfold placeS at *;split at h
 ·rename_i e
  rw [if_pos e];have h1:=e.2;unfold Jr.roomJ at h1;simp only [Bool.and_eq_true,decide_eq_true_eq] at h1;show (L.getD now lk0).fin + (d + 13)≤1024;omega
 ·rename_i e
  rw [if_neg e] at he ⊢;split at h
  ·cases h
  ·rename_i e2
   rw [if_neg e2] at he ⊢;simp only [Bool.or_eq_false_iff,decide_eq_false_iff_not] at he;have:=h00 _ (show (L.getD (Jr.nxN L (wornK f L.length)).1 lk0).count=0 by omega);show (L.getD (Jr.nxN L (wornK f L.length)).1 lk0).fin + (d + 13)≤1024;omega
theorem prog_code (f:Fla) (p:Nat) (b:List UInt8):(progF f p b).2=0∨(progF f p b).2=7:=by
 induction b generalizing f p with
 | nil=>exact .inl rfl
 | cons x r ih =>
  rw [progF];split
  ·unfold clearS; split
   ·exact .inr rfl
   ·exact .inl rfl
  ·exact ih _ _
section
variable {w w':World} {base gf n cb m c' gj gl c:Nat} {Ab A' A:Option Addr} {F:Nat→Prop}
def AppP (base gf:Nat) (Ab:Option Addr) (n cb:Nat) (A':Option Addr) (m c' gj gl:Nat) (A:Option Addr) (c:Nat) (F:Nat→Prop) (o:ApO) (w:World) (e:Ending) (w':World):Prop :=
 e=.returned (.int .i64 o.code)∧Mv (fun q=>q=gj∨q=gl∨FF gf Ab n cb A' m c' q) w w'∧FlM w' base gf Ab n cb A' m c' o.f∧∃ xs',JoM w' (fun q=>F q∨(w.heap.size≤q∧q < w'.heap.size)) gj gl A c xs' o.L o.now o.has gf o.dead
theorem app_same {o:ApO} {f:Fla} {L:List Jr.Look} {now:Nat} {has:Bool} {xs:List Value} {z:Int} (hJ:JoM w F gj gl A c xs L now has gf false) (hf:FlM w base gf Ab n cb A' m c' f) (hb:Below w.heap.size w w') (ho:o=⟨z,f,L,now,has,false⟩):AppP base gf Ab n cb A' m c' gj gl A c F o w (.returned (.int .i64 z)) w':=by
 subst ho;exact ⟨rfl,Mv.of_new hb _,hf.below hb,xs,(hJ.below hb).mono fun _ _ hq=>.inl hq⟩
end
end Go.Proofs.YtijegngfclkdaaaGreatDoor
namespace Go.Proofs.YtijegngfclkdaaaGreatDoor
open Go.RowKit
theorem JoM.look {w:World} {F:Nat→Prop} {gj gl c now gf:Nat} {A:Option Addr} {xs:List Value} {L:List Jr.Look} {has dead:Bool} (h:JoM w F gj gl A c xs L now has gf dead) {i:Nat} (hi:i < L.length):∃ b A1 c1,A=some ⟨b,0,none⟩∧b < w.heap.size∧F b ∧
  (∀ j u,(lkL (L.getD i Jr.lk0) A1 c1)[j]?=some u→w.cell? ⟨b,i * 6 + j,none⟩=some u)∧(∀ j,w.frozen? ⟨b,j,none⟩=false)∧RBp w (Fx F gj gl) A1 (L.getD i Jr.lk0).last.data.length c1 (L.getD i Jr.lk0).last.data:=by
 obtain ⟨b,rfl,_,hb⟩:=h.own.head (by omega);have hf:L[i]?=some (L.getD i Jr.lk0):=by simp [List.getD,List.getElem?_eq_getElem hi]
 obtain ⟨A1,c1,e,hr⟩:=h.rows.2 i _ hf;obtain ⟨b',o',e',_,hc⟩:=h.own.rv.at_ (by omega);injection e' with e'
 injection e' with e1 e2
 subst e1 e2;refine ⟨b,A1,c1,rfl,hb,by have:=h.at_ b rfl; rw [this.1]; exact this.2,fun j u hu=>?_,fun j=>h.own.free j,hr⟩;have hj:=(List.getElem?_eq_some_iff.1 hu).1;rw [← e,List.getElem?_take] at hu;split at hu
 ·rw [List.getElem?_drop] at hu
  have:=hc _ u hu
  rwa [Nat.zero_add] at this
 ·cases hu
theorem jLast_no {w:World} {F:Nat→Prop} {gj gl c now gf:Nat} {A:Option Addr} {xs:List Value} {L:List Jr.Look} {dead:Bool} (h:JoM w F gj gl A c xs L now false gf dead) :
  Calls Tryz.prog 134 #[.pointer (some ⟨gj,0,none⟩)] w fun e w'=>e=.returned (.tuple #[.agg recZ,.bool false])∧Below w.heap.size w w':=by
 have b1:=alloc_one w (.cells #[.int .i64 0,.int .u32 0,.slice none 0 0] 217);have K1:=Blk.new w 217 #[.int .i64 0,.int .u32 0,.slice none 0 0];have J1:=h.below b1;have F1:=J1.five;have C1:=K1.three;have s0:=C1.1;have s1:=C1.2.1;have s2:=C1.2.2.1;have BZ:=Lib.hid b1;clear h J1;go_enter Tryz.func134,Tryz.ntmps134
 go_wp2_with fail
 exact bodyPost_ret (v:=.tuple #[.agg recZ,.bool false]) (by simp [results,Tryz.results134,go_sem,s0,s1,s2,recZ]) rfl ⟨rfl,BZ.out⟩
theorem jLast_yes {w:World} {F:Nat→Prop} {gj gl c now gf:Nat} {A:Option Addr} {xs:List Value} {L:List Jr.Look} {dead:Bool} (h:JoM w F gj gl A c xs L now true gf dead) (hn:now < L.length) (hL:L.length≤1000) (hd:(L.getD now Jr.lk0).last.data.length≤100000) :
  Calls Tryz.prog 134 #[.pointer (some ⟨gj,0,none⟩)] w fun e w'=>∃ A1 c1,e=.returned (.tuple #[recV (L.getD now Jr.lk0).last A1 c1,.bool true])∧OB w' w.heap.size A1 (L.getD now Jr.lk0).last.data.length c1 (L.getD now Jr.lk0).last.data∧Below w.heap.size w w':=by
 have b1:=alloc_one w (.cells #[.int .i64 0,.int .u32 0,.slice none 0 0] 217);have K1:=Blk.new w 217 #[.int .i64 0,.int .u32 0,.slice none 0 0];have J1:=h.below b1;obtain ⟨b,A1,c1,hA,hb,_,hc,_,hr⟩:=h.look hn;subst hA;have F1:=J1.five;have hn2:=h.blk.lt;go_enter Tryz.func134,Tryz.ntmps134
 go_wp2_with fail
 generalize hw1:w.alloc (.cells #[.int .i64 0,.int .u32 0,.slice none 0 0] 217)=w1 at *;have y0:=(b1.cell (p:=⟨b,now * 6,none⟩) hb).trans (hc 0 _ rfl);have y1:=(b1.cell (p:=⟨b,now * 6 + 1,none⟩) hb).trans (hc 1 _ rfl);have y2:=(b1.cell (p:=⟨b,now * 6 + 2,none⟩) hb).trans (hc 2 _ rfl);have RX:=Lib.hid (fun (w2:World) (h:Below w.heap.size w w2)=>hr.rb.below h);generalize hrr:(L.getD now Jr.lk0).last=r at *;have i0:(0:Int)≤(now:Int):=by omega
 have i1:(now:Int) < (L.length:Int):=by omega
 have hbw:b < w1.heap.size:=Nat.lt_of_lt_of_le hb b1.size;generalize L.length=ll at *;have v0:=cell_mv (G:=fun _=>False) F1.1.1 (fun h=>h);have v1:=cell_mv (G:=fun _=>False) F1.1.2.1 (fun h=>h);clear hw1 h J1 hc hr;have z0:=cell_mv (G:=fun _=>False) y0 (fun h=>h);have z1:=cell_mv (G:=fun _=>False) y1 (fun h=>h);have z2:=cell_mv (G:=fun _=>False) y2 (fun h=>h);refine region_mv 99 (fun _=>False) (by kernel_rfl) ?_;refine phase_mv (by kernel_rfl) 2 (Mv.refl _ _).drew [0,5,1,6,2,7,3,8,4,9,10,11,12] rfl (by kernel_rfl) ?_;simp only [picks,nth]
 repeat (go_big_quiet_step (fail))
 refine wpQuiet_nil ?_;refine phase_opL 13 1 rfl (by kernel_rfl) (by decide) ?_;simp only [nth];have b2:=alloc_one w1.drew (.cells #[.int .i64 0,.int .u32 0,.slice none 0 0] 217);have D2:Below w1.heap.size w1 _:=(below_drew w1).trans b2;go_wp2_with fail
 refine behind_mv (Mv.of_new D2 _) ?_;refine phase_opL 14 0 rfl (by kernel_rfl) (by decide) ?_;simp only [nth];have K2:Blk (w1.drew.alloc (.cells #[.int .i64 0,.int .u32 0,.slice none 0 0] 217)) w1.heap.size 217 #[.int .i64 0,.int .u32 0,.slice none 0 0]:=Blk.new w1.drew _ _;have C2:=K2.three;have K3:Blk (w1.alloc (.cells #[.int .i64 (r.kind:Int),.int .u32 (r.num:Int),.slice A1 r.data.length c1] 217)).drew w1.heap.size 217 #[.int .i64 (r.kind:Int),.int .u32 (r.num:Int),.slice A1 r.data.length c1]:=(Blk.new w1 _ _).drew;have D3:Below w1.heap.size w1 (w1.alloc (.cells #[.int .i64 (r.kind:Int),.int .u32 (r.num:Int),.slice A1 r.data.length c1] 217)).drew:=(alloc_one w1 _).drew;go_wp2_with fail
 refine behind_mv (Mv.of_new D3 _) ?_;refine phase_endL (by kernel_rfl) ?_;have K13:=K1.below D3 K1.lt;generalize hw3:(w1.alloc (.cells #[.int .i64 (r.kind:Int),.int .u32 (r.num:Int),.slice A1 r.data.length c1] 217)).drew=w3 at *;have b3:=below_step b1 D3 (Nat.le_refl _);have RX3:=Lib.hid (RX.out w3 b3);have C3:=K3.three;have h10:w.heap.size < w1.heap.size:=K1.lt;clear hw3 K2 C2 D2 D3 b2 v0 v1 z0 z1 z2 y0 y1 y2 F1 RX K1;have hB3:=b3.size;go_wp2_with (at_builtin; refine wpList_appb_nil etb rfl (.const (.slice none 0 0)) (.tmp 30) rfl rfl rfl w.heap.size RX3.out (by omega) hB3 ?_; intro A6 c6 w6 o6 b6; have L6:=K3.later b6; obtain ⟨m0,m1,m2,m3,m4,m5⟩:=L6.three; have K6:=K13.later b6; have C6:=K6.three)
 have b16:=below_step b3 b6 (Nat.le_refl _);have b17:Below w.heap.size w (w6.setCell ⟨w1.heap.size,2,none⟩ (.slice A6 r.data.length c6)):=b16.setCell (by show w.heap.size≤w1.heap.size; omega) _;have K7:=K6.far (p:=⟨w1.heap.size,2,none⟩) (by show w.heap.size≠w1.heap.size; omega) (.slice A6 r.data.length c6);have h13:w1.heap.size < w3.heap.size:=K3.lt;have o7:=OB.far o6 h13 2 (.slice A6 r.data.length c6);obtain ⟨wz,hwz,⟨s0,s1,s2⟩,bz,mz⟩:=rec_done K7 b17 (.int .i64 (r.kind:Int)) (.int .u32 (r.num:Int)) (.slice A6 r.data.length c6);have o8:=OB.far3 o7 (g:=w.heap.size) (by omega) 0 1 2 (.int .i64 (r.kind:Int)) (.int .u32 (r.num:Int)) (.slice A6 r.data.length c6);rw [hwz] at o8;rw [hwz];refine bodyPost_ret (v:=.tuple #[recV r A6 c6,.bool true]) (by simp [results,Tryz.results134,go_sem,s0,s1,s2,recV]) rfl ?_;rw [hrr];exact ⟨A6,c6,rfl,o8.more (by omega),bz⟩
end Go.Proofs.YtijegngfclkdaaaGreatDoor
namespace Go.Proofs.YtijegngfclkdaaaGreatDoor
open Go.RowKit
structure Vau where
 L:List Jr.Look
 now:Nat
 has:Bool
 dead:Bool
 s:List Dc.Vl
 odd:Bool
 off:Bool
def vaC (gj:Nat) (As:Option Addr) (n cs:Nat) (odd off:Bool):Array Value:=#[.pointer (some ⟨gj,0,none⟩),.slice As n cs,.bool odd,.bool off]
structure VaM (w:World) (F:Nat→Prop) (gv gj gl:Nat) (A:Option Addr) (c:Nat) (xs:List Value) (gf:Nat) (As:Option Addr) (cs:Nat) (x:Vau):Prop where
 fg:F gv
 ne:gv≠gl
 blk:Blk w gv 215 (vaC gj As x.s.length cs x.odd x.off)
 jo:JoM w (fun q=>F q∧q≠gv) gj gl A c xs x.L x.now x.has gf x.dead
 vals:RVq w (fun q=>F q∧q≠gv∧q≠gj∧q≠gl) As x.s.length cs x.s
section
variable {w w':World} {F G:Nat→Prop} {gv gj gl c gf cs:Nat} {A As:Option Addr} {xs:List Value} {x:Vau}
theorem VaM.mv (h:VaM w F gv gj gl A c xs gf As cs x) (hm:Mv G w w') (hd:∀ b,b < w.heap.size→F b→¬ G b):VaM w' F gv gj gl A c xs gf As cs x :=
 ⟨h.fg,h.ne,h.blk.mv hm (hd gv h.blk.lt h.fg),h.jo.mv hm fun b hb hf=>hd b hb hf.1,h.vals.mv hm fun b hb hf=>hd b hb hf.1⟩
theorem VaM.below (h:VaM w F gv gj gl A c xs gf As cs x) (hb:Below w.heap.size w w'):VaM w' F gv gj gl A c xs gf As cs x:=h.mv (Mv.of_new hb fun _=>False) fun _ _ _ h=>h
theorem VaM.mono (h:VaM w F gv gj gl A c xs gf As cs x) (hi:∀ b,b < w.heap.size→F b→G b):VaM w G gv gj gl A c xs gf As cs x :=
 ⟨hi gv h.blk.lt h.fg,h.ne,h.blk,h.jo.mono fun b hb hf=>⟨hi b hb hf.1,hf.2⟩,h.vals.mono fun b hb hf=>⟨hi b hb hf.1,hf.2⟩⟩
theorem VaM.four (h:VaM w F gv gj gl A c xs gf As cs x):(w.cell? ⟨gv,0,none⟩=some (.pointer (some ⟨gj,0,none⟩))∧w.cell? ⟨gv,1,none⟩=some (.slice As x.s.length cs)∧w.cell? ⟨gv,2,none⟩=some (.bool x.odd)∧w.cell? ⟨gv,3,none⟩=some (.bool x.off)) ∧
  (w.frozen? ⟨gv,0,none⟩=false∧w.frozen? ⟨gv,1,none⟩=false∧w.frozen? ⟨gv,2,none⟩=false∧w.frozen? ⟨gv,3,none⟩=false) :=
 ⟨⟨h.blk.cell 0,h.blk.cell 1,h.blk.cell 2,h.blk.cell 3⟩,h.blk.frozen 0,h.blk.frozen 1,h.blk.frozen 2,h.blk.frozen 3⟩
theorem VaM.set_ (h:VaM w F gv gj gl A c xs gf As cs x) {i:Nat} {u:Value} {x':Vau} (hc:(vaC gj As x.s.length cs x.odd x.off).setIfInBounds i u=vaC gj As x'.s.length cs x'.odd x'.off) (h1:x'.L=x.L∧x'.now=x.now∧x'.has=x.has∧x'.dead=x.dead) (h2:x'.s=x.s):VaM (w.setCell ⟨gv,i,none⟩ u) F gv gj gl A c xs gf As cs x':=by
 have hm:=Mv.setCell w ⟨gv,i,none⟩ u;obtain ⟨e1,e2,e3,e4⟩:=h1;refine ⟨h.fg,h.ne,by rw [← hc]; exact h.blk.set_ i u,?_,?_⟩
 ·rw [e1,e2,e3,e4]; exact h.jo.mv hm fun b _ hf e=>hf.2 e
 ·rw [h2]; exact h.vals.mv hm fun b _ hf e=>hf.2.1 e
theorem VaM.put (h:VaM w F gv gj gl A c xs gf As cs x) {As':Option Addr} {cs':Nat} {l:List Dc.Vl} (hv:RVq w (fun q=>F q∧q≠gv∧q≠gj∧q≠gl) As' l.length cs' l):VaM (w.setCell ⟨gv,1,none⟩ (.slice As' l.length cs')) F gv gj gl A c xs gf As' cs' { x with s:=l }:=by
 have hm:=Mv.setCell w ⟨gv,1,none⟩ (.slice As' l.length cs');exact ⟨h.fg,h.ne,h.blk.set_ 1 _,h.jo.mv hm fun b _ hf e=>hf.2 e,hv.mv hm fun b _ hf e=>hf.2.1 e⟩
theorem VaM.jrn (h:VaM w F gv gj gl A c xs gf As cs x) {G:Nat→Prop} (hm:Mv (fun q=>q=gj∨q=gl∨G q) w w') (hG:∀ q,F q→¬ G q) {xs':List Value} {L:List Jr.Look} {now:Nat} {has dead:Bool}
  (hj:JoM w' (fun q=>(F q∧q≠gv)∨(w.heap.size≤q∧q < w'.heap.size)) gj gl A c xs' L now has gf dead):VaM w' (fun q=>F q∨(w.heap.size≤q∧q < w'.heap.size)) gv gj gl A c xs' gf As cs { x with L:=L,now:=now,has:=has,dead:=dead }:=by
 have hgv:=h.blk.lt;refine ⟨.inl h.fg,h.ne,h.blk.mv hm ?_,hj.mono fun b _ hf=>?_,(h.vals.mv hm ?_).mono fun b _ hf=>⟨.inl hf.1,hf.2⟩⟩
 ·intro e
  rcases e with e | e | e
  ·exact h.jo.fg.2 e.symm
  ·exact h.ne e
  ·exact hG gv h.fg e
 ·rcases hf with hf | hf
  ·exact ⟨.inl hf.1,hf.2⟩
  ·exact ⟨.inr hf,by omega⟩
 ·intro b hb hf e
  rcases e with e | e | e
  ·exact hf.2.2.1 e
  ·exact hf.2.2.2 e
  ·exact hG b hf.1 e
end
end Go.Proofs.YtijegngfclkdaaaGreatDoor
