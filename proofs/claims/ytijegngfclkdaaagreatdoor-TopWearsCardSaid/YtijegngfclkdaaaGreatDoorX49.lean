/-
  Pieces of the proof: part 49 of 54.
  Conditions: none.
-/
import Derived.Lib.SlBytesConst
import Derived.Test.YtijegngfclkdaaaGreatDoorW13
import Derived.Test.YtijegngfclkdaaaGreatDoorW14
import Derived.Test.YtijegngfclkdaaaGreatDoorW15
import Derived.Test.YtijegngfclkdaaaGreatDoorW21
import Derived.Test.YtijegngfclkdaaaGreatDoorW25
import Derived.Test.YtijegngfclkdaaaGreatDoorW39
import Derived.Test.YtijegngfclkdaaaGreatDoorX40
import Derived.Test.YtijegngfclkdaaaGreatDoorX47
import Derived.Test.YtijegngfclkdaaaGreatDoorX48
set_option linter.unusedVariables false
set_option linter.unusedSimpArgs false
set_option maxHeartbeats 100000000
set_option maxRecDepth 100000
namespace Go.Proofs.YtijegngfclkdaaaGreatDoor.Ev
open Go Go.RowKit Tw
theorem memT {R:Nat→Dt→Prop} {τ:List UInt8} {z0:Option Obj} (G:Good R τ) {m:Memo} (hf:((XP orcT).fn m.f).isSome=true) (hb:memoB (XP orcT) 1000000 m=true):MemoOK (XP orcT) (Ot R τ z0) m :=
 memo_ok (XP_ok _) (XP_plans _) (orcT_ok rfl G) (fun e=>by
  have e':(XP orcT).fn m.f=none:=e;rw [e'] at hf;cases hf) hb
structure Names (ρ:Nat→Option (Nat×Nat)) (kv kl kd:Nat):Prop where
 f:∃ s,ρ 101=some (101,s)
 d:∃ s,ρ 102=some (kd,s)
 v:∃ s,ρ 103=some (kv,s)
 l:∃ s,ρ 104=some (kl,s)
 n5:ρ 105=none
 n6:ρ 106=none
section
variable {R R':Nat→Dt→Prop} {τ τ':List UInt8} {z0:Option Obj} {E:Env} {w:World} {x:Dt} {col:Nat→Nat} {p kv kl kd:Nat} {ρ:Nat→Option (Nat×Nat)}
theorem ren_D {k j:Nat} (h:∃ s,ρ k=some (j,s)) (hd:E.D j):(E.ren ρ).D k:=by
 obtain ⟨s,h⟩:=h;exact ⟨_,h,hd⟩
theorem ren_sy {k j:Nat} (h:∃ s,ρ k=some (j,s)):(E.ren ρ).sy k=E.sy j:=by
 obtain ⟨s,h⟩:=h;simp only [Env.ren,h]
theorem ok_ren (hp:p < 64) (hv:kv < 65536∧kv≠0) (hl:kl < 65536∧kl≠0) (hd:kd≠0) (n:Names ρ kv kl kd) (K:OkT R τ z0 (tg p kv kl kd) E w x col) (hR:R' 0 x):OkT R' τ' z0 (tg 0 103 104 102) (E.ren ρ) w x col:=by
 obtain ⟨gf,A,c,A',c',f1,f2⟩:=K.fv;have e2:=tg_V (l:=kl) (d:=kd) hp hv.1;have e3:=tg_L (d:=kd) hp hv.1 hl.1;have e4:=tg_D (d:=kd) hp hv.1 hl.1;rw [e2] at f2;have kdic:=K.dic;have klog:=K.log;rw [e4] at kdic;rw [e3] at klog;have a1:tP (tg 0 103 104 102)=0:=by decide
 have a2:tV (tg 0 103 104 102)=103:=by decide
 have a3:tL (tg 0 103 104 102)=104:=by decide
 have a4:tD (tg 0 103 104 102)=102:=by decide
 refine { inB:=K.inB,ltB:=K.ltB,c0:=K.c0,z:=K.z,g:=K.g,ph:=(by rw [a1]; exact hR),m3:=K.m3,fv:=⟨gf,A,c,A',c',⟨ren_D n.f f1.nm,(ren_sy n.f).trans f1.sy,f1.mem,f1.at_⟩,fun _=>?_⟩,dic:=fun _=>?_,log:=fun _=>?_,txt:=(by rw [a1]; exact fun h=>absurd h (by decide)),ent:=(by rw [a1]; exact fun h=>absurd h (by decide)) }
 ·obtain ⟨gv,gj,gl,A1,c1,xs,As,cs,h1,h2,h3,h4⟩:=f2 hv.2
  rw [a2];exact ⟨gv,gj,gl,A1,c1,xs,As,cs,ren_D n.v h1,(ren_sy n.v).trans h2,h3,h4⟩
 ·obtain ⟨g,gd,lc,vc,la,vA,ys,vs,h1,h2,h3,h4⟩:=kdic hd
  rw [a4];exact ⟨g,gd,lc,vc,la,vA,ys,vs,ren_D n.d h1,(ren_sy n.d).trans h2,h3,h4⟩
 ·obtain ⟨A1,n1,c1,h1,h2,h3⟩:=klog hl.2
  rw [a3];exact ⟨A1,n1,c1,ren_D n.l h1,(ren_sy n.l).trans h2,h3⟩
end
structure HsE (rows:List (Nat×Ob)) (w0 w:World) (x:Dt) (bp fp:Value) (nb:Nat) (Ow:Nat→Obj→Prop) (E:Env):Prop where
 rel:Rel (XP orcT) (Ot (fun _ y=>y=x) [] (w0.heap[0]?)) E (hOf rows) (tg 0 103 104 102) w
 fresh:∀ id,200≤id→¬ E.D id
 n56:¬ E.D 105∧¬ E.D 106
 oldR:∀ id,hOf rows id≠none→w0.heap.size≤E.ι id
 oldB:∀ b,E.B b→b=0∨w0.heap.size≤b
 bus:RA E (.ptr 110 0) bp
 fls:fp=E.sy 101
 bel:Below w0.heap.size w0 w
 ltB:∀ b,E.B b→b < nb
 ltR:∀ id,hOf rows id≠none→E.ι id < nb
 own:∀ b o,Ow b o→b < nb∧w.heap[b]?=some o∧¬ E.B b∧∀ id,hOf rows id≠none→E.ι id≠b
 nb:nb≤w.heap.size∧w0.heap.size≤nb
def Hs (rows:List (Nat×Ob)) (w0 w:World) (x:Dt) (bp fp:Value) (nb:Nat) (Ow:Nat→Obj→Prop):Prop:=∃ E,HsE rows w0 w x bp fp nb Ow E
section
variable {R:Nat→Dt→Prop} {τ:List UInt8} {E:Env} {w0 w:World} {bp fp:Value} {Ow:Nat→Obj→Prop}
theorem stepG (G:Good R τ) {m:Memo} (hf:((XP orcT).fn m.f).isSome=true) (hb:memoB (XP orcT) 1000000 m=true) {r:List (Nat×Nat×Nat)} {rows:List (Nat×Ob)} (hw:wkAll (renL (XP orcT).ng r) m.post rows=true) (hk:renOK (XP orcT).ng 200 r=true) {p kv kl kd:Nat} (hg:m.g'=tg p kv kl kd) (hp:p < 64) (hv:kv < 65536∧kv≠0) (hl:kl < 65536∧kl≠0) (hd:kd≠0)
  (n:Names (renL (XP orcT).ng r) kv kl kd) {bs:Nat} (hbus:renL (XP orcT).ng r 110=some (bs,0)) (S:Rel (XP orcT) (Ot R τ (w0.heap[0]?)) E (hOf m.pre) m.g w) (fresh:∀ id,m.c≤id→¬ E.D id) (oldR:∀ id,hOf m.pre id≠none→w0.heap.size≤E.ι id) (oldB:∀ b,E.B b→b=0∨w0.heap.size≤b) (hfp:E.D 101∧fp=E.sy 101) (bel:Below w0.heap.size w0 w) (own:∀ b o,Ow b o→b < w.heap.size∧w.heap[b]?=some o∧¬ E.B b∧∀ id,hOf m.pre id≠none→E.ι id≠b)
  {bpf:Value→Value} (hbp:∀ E' y,Ext E E'→RV E' m.v y→RA E' (.ptr bs 0) (bpf y)) {vals:List Value} (ha:Rel2 (RV E) m.args vals) :
  Calls Tryz.prog m.f vals.toArray w fun e w'=>∃ y E',e=.returned y∧RV E' m.v y∧Ext E E'∧∃ x,R p x∧Hs rows w0 w' x (bpf y) fp w'.heap.size Ow:=by
 refine ((memT G hf hb).2 E w vals S (fun id h1 _=>fresh id h1) ha).mono ?_;rintro e w' ⟨y,E',rfl,hy,R',M⟩;rw [hg] at R';obtain ⟨x,col,K⟩:=R'.out;have K':=ok_ren (R':=fun _ y=>y=x) (τ':=[]) hp hv hl hd n K rfl;have Rr:=Rel.ren (O':=Ot (fun _ y=>y=x) [] (w0.heap[0]?)) (g':=tg 0 103 104 102) R' hk hw ⟨x,col,K'⟩;have hpR:R p x:=by have:=K.ph; rwa [tg_P hp] at this
 have hsz:w0.heap.size≤w.heap.size:=bel.size;have key:∀ id,hOf rows id≠none→∃ j s,renL (XP orcT).ng r id=some (j,s)∧hOf m.post j≠none:=fun id hi=>by
  cases e:hOf rows id with
  | none=>exact absurd e hi
  | some o =>
   simp only [wkAll,Bool.and_eq_true,List.all_eq_true] at hw;have:=hw.1 _ (hOf_mem e);dsimp only at this;split at this
   ·rename_i q hq
    split at this
    ·rename_i o' ho'
     exact ⟨q.1,q.2,hq,by rw [ho']; simp⟩
    ·cases this
   ·cases this
 refine ⟨y,E',rfl,hy,M.ext,x,hpR,_,{ rel:=Rr,fresh:=ren_fresh hk,n56:=⟨(fun ⟨q,hq,_⟩=>by rw [n.n5] at hq; cases hq),(fun ⟨q,hq,_⟩=>by rw [n.n6] at hq; cases hq)⟩,oldR:=fun id hi=>?_,oldB:=fun b hb=>?_,bus:=?_,fls:=?_,bel:=?_,ltB:=Rr.lt,ltR:=fun id hi=>?_,nb:=⟨Nat.le_refl _,Nat.le_trans hsz M.size⟩,own:=fun b o hb=>?_ }⟩
 ·
  obtain ⟨j,s,h1,h2⟩:=key id hi;have e:(E'.ren (renL (XP orcT).ng r)).ι id=E'.ι j:=by simp only [Env.ren,h1]
  rw [e];rcases M.img j h2 with ⟨i,g1,g2⟩ | h
  ·rw [g2]; exact oldR i g1
  ·omega
 ·rcases M.imgB b hb with h | h
  ·exact oldB b h
  ·exact .inr (by omega)
 ·have h1:=hbp E' y M.ext hy
  refine wkAt_R (ρ:=renL (XP orcT).ng r) (a:=.ptr 110 0) (b:=.ptr bs 0) ?_ h1;simp only [wkAt,eqT,hbus,Nat.beq_refl,Bool.and_self,Nat.add_zero]
 ·rw [ren_sy n.f,(M.ext 101 hfp.1).2.2.2.2]
  exact hfp.2
 ·refine ⟨M.kp.1.trans bel.os,M.kp.2.1.trans bel.tape,M.kp.2.2.trans bel.output,Nat.le_trans hsz M.size,fun b hb=>?_⟩
  by_cases h0:b=0
  ·subst h0
   exact K.z
  ·have:¬ E.B b:=fun h=>by rcases oldB b h with h | h <;> omega
   rw [M.frame b (by omega) this fun id hi e=>by have:=oldR id hi; omega];exact bel.block b hb
 ·cases e:hOf rows id with
  | none=>exact absurd e hi
  | some o=>exact Rr.block_lt e
 ·obtain ⟨a1,a2,a3,a4⟩:=own b o hb
  refine ⟨Nat.lt_of_lt_of_le a1 M.size,?_,fun h=>?_,fun id hi e=>?_⟩
  ·rw [M.frame b a1 a3 fun id hi e=>a4 id hi (by first | exact e | exact e.symm)]; exact a2
  ·rcases M.imgB b h with h | h
   ·exact a3 h
   ·omega
  ·obtain ⟨j,s,h1,h2⟩:=key id hi
   have e1:(E'.ren (renL (XP orcT).ng r)).ι id=E'.ι j:=by simp only [Env.ren,h1]
   rw [e1] at e;rcases M.img j h2 with ⟨i,g1,g2⟩ | h
   ·exact a4 i g1 (by rw [← g2]; exact e)
   ·omega
theorem Hs.below {rows:List (Nat×Ob)} {x:Dt} {nb:Nat} {w':World} (h:Hs rows w0 w x bp fp nb Ow) (hb:Below nb w w'):Hs rows w0 w' x bp fp nb Ow:=by
 obtain ⟨E,h⟩:=h;have hr:=h.rel;have ok:=(Ot (fun _ y=>y=x) [] (w0.heap[0]?)).keep _ _ _ _ w' hr.out (Ext.refl E) (fun _=>Iff.rfl) (fun b hB=>hb.block b (h.ltB b hB)) hb.size ⟨hb.os,hb.tape,hb.output⟩;refine ⟨E,{ rel:=hr.over (Ext.refl E) (fun b hB=>⟨Nat.lt_of_lt_of_le (hr.lt b hB) hb.size,fun i hi e=>hr.apart i hi (e ▸ hB)⟩) (fun i hi=>hb.block _ (h.ltR i hi)) ok,fresh:=h.fresh,n56:=h.n56,oldR:=h.oldR,oldB:=h.oldB,bus:=h.bus,fls:=h.fls,bel:=⟨hb.os.trans h.bel.os,hb.tape.trans h.bel.tape,hb.output.trans h.bel.output,Nat.le_trans h.bel.size hb.size,fun b hl=>(hb.block b (Nat.lt_of_lt_of_le hl h.nb.2)).trans (h.bel.block b hl)⟩,ltB:=h.ltB,ltR:=h.ltR,nb:=⟨Nat.le_trans h.nb.1 hb.size,h.nb.2⟩,own:=fun b o ho=>⟨(h.own b o ho).1,(hb.block b (h.own b o ho).1).trans (h.own b o ho).2.1,(h.own b o ho).2.2⟩ }⟩
theorem Hs.mine {rows:List (Nat×Ob)} {x:Dt} {nb nb':Nat} (h:Hs rows w0 w x bp fp nb Ow) {b:Nat} {o:Obj} (hb:nb≤b∧b < nb'∧nb'≤w.heap.size) (ho:w.heap[b]?=some o):Hs rows w0 w x bp fp nb' fun b' o'=>Ow b' o'∨(b'=b∧o'=o):=by
 obtain ⟨E,h⟩:=h;refine ⟨E,{ rel:=h.rel,fresh:=h.fresh,n56:=h.n56,oldR:=h.oldR,oldB:=h.oldB,bus:=h.bus,fls:=h.fls,bel:=h.bel,ltB:=fun b hB=>by have:=h.ltB b hB; omega,ltR:=fun id hi=>by have:=h.ltR id hi; omega,nb:=⟨hb.2.2,by have:=h.nb.2; omega⟩,own:=fun b' o' hh=>?_ }⟩;rcases hh with hh | ⟨rfl,rfl⟩
 ·obtain ⟨a1,a2,a3,a4⟩:=h.own b' o' hh
  exact ⟨by omega,a2,a3,a4⟩
 ·exact ⟨hb.2.1,ho,fun hB=>by have:=h.ltB b' hB; omega,fun id hi e=>by have:=h.ltR id hi; omega⟩
theorem Hs.less {rows:List (Nat×Ob)} {x:Dt} {nb:Nat} {Ow':Nat→Obj→Prop} (h:Hs rows w0 w x bp fp nb Ow) (hO:∀ b o,Ow' b o→Ow b o):Hs rows w0 w x bp fp nb Ow':=by
 obtain ⟨E,h⟩:=h;exact ⟨E,{ rel:=h.rel,fresh:=h.fresh,n56:=h.n56,oldR:=h.oldR,oldB:=h.oldB,bus:=h.bus,fls:=h.fls,bel:=h.bel,ltB:=h.ltB,ltR:=h.ltR,nb:=h.nb,own:=fun b o hh=>h.own b o (hO b o hh) }⟩
theorem Hs.at_ {rows:List (Nat×Ob)} {x:Dt} {nb b:Nat} {o:Obj} (h:Hs rows w0 w x bp fp nb Ow) (hO:Ow b o):w.heap[b]?=some o:=by
 obtain ⟨E,h⟩:=h;exact (h.own b o hO).2.1
theorem Hs.old {rows:List (Nat×Ob)} {x:Dt} {nb:Nat} (h:Hs rows w0 w x bp fp nb Ow):Below w0.heap.size w0 w:=by
 obtain ⟨E,h⟩:=h;exact h.bel
theorem Hs.grow {rows:List (Nat×Ob)} {x:Dt} {nb nb':Nat} (h:Hs rows w0 w x bp fp nb Ow) (hb:nb≤nb'∧nb'≤w.heap.size):Hs rows w0 w x bp fp nb' Ow:=by
 obtain ⟨E,h⟩:=h;exact ⟨E,{ rel:=h.rel,fresh:=h.fresh,n56:=h.n56,oldR:=h.oldR,oldB:=h.oldB,bus:=h.bus,fls:=h.fls,bel:=h.bel,ltB:=fun b hB=>by have:=h.ltB b hB; omega,ltR:=fun id hi=>by have:=h.ltR id hi; omega,nb:=⟨hb.2,by have:=h.nb.2; omega⟩,own:=fun b o hh=>⟨Nat.lt_of_lt_of_le (h.own b o hh).1 hb.1,(h.own b o hh).2⟩ }⟩
end
end Go.Proofs.YtijegngfclkdaaaGreatDoor.Ev
namespace Go.Proofs.YtijegngfclkdaaaGreatDoor.Ev
open Go Go.RowKit Tw
section
variable {rows:List (Nat×Ob)} {w0 w:World} {x:Dt} {bp fp:Value} {nb:Nat} {Ow:Nat→Obj→Prop}
theorem Hs.flash (h:Hs rows w0 w x bp fp nb Ow):∃ gf A c A' c',fp=.pointer (some ⟨gf,0,none⟩)∧FlM w 0 gf A (x.m * 1024) c A' x.m c' x.f∧3≤x.m∧x.m≤8:=by
 obtain ⟨E,h⟩:=h;obtain ⟨x',col,K⟩:=h.rel.out;obtain rfl:x'=x:=by have:=K.ph; exact this
 obtain ⟨gf,A,c,A',c',f1,_⟩:=K.fv;exact ⟨gf,A,c,A',c',h.fls.trans f1.sy,f1.mem,K.m3.1,K.m3.2⟩
theorem hs_ops (h:Hs rows w0 w x bp fp nb Ow):Calls Tryz.prog 11 #[fp] w fun e w'=>e=.returned (.int .i64 x.f.ops)∧w=w':=by
 obtain ⟨gf,A,c,A',c',rfl,f,_⟩:=h.flash;exact fOps_any f
theorem hs_worn (h:Hs rows w0 w x bp fp nb Ow) (s:Int):Calls Tryz.prog 15 #[fp,.int .i64 s] w fun e w'=>e=.returned (.int .i64 (wornS x.f s))∧w=w':=by
 obtain ⟨gf,A,c,A',c',rfl,f,_⟩:=h.flash;exact fWorn_any f s
theorem hs_cut (h:Hs rows w0 w x bp fp nb Ow) (k z:Int) (hk:0≤k):Calls Tryz.prog 9 #[fp,.int .i64 k,.int .u32 z] w fun e w'=>e=.returned (.int .i64 0)∧Hs rows w0 w' { x with f:={ x.f with ahead:=k,mask:=z } } bp fp nb Ow∧Mv (fun q=>q < nb∧w0.heap.size≤q) w w':=by
 obtain ⟨E,h⟩:=h;obtain ⟨x',col,K⟩:=h.rel.out;obtain rfl:x'=x:=by have:=K.ph; exact this
 obtain ⟨gf,A,c,A',c',f1,f2⟩:=K.fv;rw [h.fls,f1.sy];refine (fCut_any f1.mem k z hk).mono ?_;rintro e w' ⟨rfl,m,f'⟩;have hgf:col gf=1:=f1.at_ gf (.inl rfl);have hgB:E.B gf:=(K.inB gf).2 (by rw [hgf]; decide);have hg0:gf≠0:=fun e=>by rw [e,K.c0] at hgf; cases hgf
 have hgw:w0.heap.size≤gf:=(h.oldB gf hgB).resolve_left hg0;have hd:∀ {i:Nat},i≠1→∀ b,b < w.heap.size→col b=i→¬ b=gf:=fun hi b _ e eb=>hi (by rw [← e,eb,hgf])
 have ok:(Ot (fun _ y=>y={ x' with f:={ x'.f with ahead:=k,mask:=z } }) [] (w0.heap[0]?)).ok (tg 0 103 104 102) E w' :=
  ⟨_,col,{ inB:=K.inB,ltB:=fun b hb=>Nat.lt_of_lt_of_le (K.ltB b hb) m.size,c0:=K.c0,z:=(m.block 0 (K.ltB 0 (by rw [K.c0]; decide)) (fun e=>hg0 e.symm)).trans K.z,g:=K.g.mv m (fun e=>hg0 e.symm),ph:=rfl,m3:=K.m3,fv:=⟨gf,A,c,A',c',⟨f1.nm,f1.sy,f',f1.at_⟩,fun hv=>(f2 hv).mv (Ext.refl E) m (hd (by decide)) fun _ h=>h⟩,dic:=fun hv=>(K.dic hv).mv (Ext.refl E) m (hd (by decide)) fun _ h=>h,log:=fun hv=>(K.log hv).mv (Ext.refl E) m (hd (by decide)) fun _ h=>h,txt:=fun hv=>absurd hv (by decide),ent:=fun hv=>absurd hv (by decide) }⟩
 have hm2:Mv (fun q=>q < nb∧w0.heap.size≤q) w w':=m.mono fun b _ e=>by have e2:b=gf:=e; rw [e2]; exact ⟨h.ltB gf hgB,hgw⟩
 refine ⟨rfl,⟨E,{ rel:=h.rel.over (Ext.refl E) (fun b hB=>⟨Nat.lt_of_lt_of_le (h.rel.lt b hB) m.size,fun i hi e=>h.rel.apart i hi (e ▸ hB)⟩) (fun i hi=>m.block _ (by have:=h.ltR i hi; have:=h.nb.1; omega) fun e=>h.rel.apart i hi (by rw [show E.ι i=gf from e]; exact hgB)) ok,fresh:=h.fresh,n56:=h.n56,oldR:=h.oldR,oldB:=h.oldB,bus:=h.bus,fls:=f1.sy.symm,bel:=⟨m.os.trans h.bel.os,m.tape.trans h.bel.tape,m.output.trans h.bel.output,Nat.le_trans h.bel.size m.size,fun b hb=>(m.block b (Nat.lt_of_lt_of_le hb h.bel.size) fun e=>by have e2:b=gf:=e; omega).trans (h.bel.block b hb)⟩,ltB:=h.ltB,ltR:=h.ltR,nb:=⟨Nat.le_trans h.nb.1 m.size,h.nb.2⟩,own:=fun b o ho=>⟨(h.own b o ho).1,(m.block b (Nat.lt_of_lt_of_le (h.own b o ho).1 h.nb.1) fun e=>(h.own b o ho).2.2.1 (by have e2:b=gf:=e; rw [e2]; exact hgB)).trans (h.own b o ho).2.1,(h.own b o ho).2.2⟩ }⟩,hm2⟩
theorem hs_text {E:Env} (h:HsE rows w0 w x bp fp nb Ow E) {A:Option Addr} {c:Nat} {τ:List UInt8} (ht:OB w nb A τ.length c τ) {R:Nat→Dt→Prop} {p:Nat} (hp:p=1∨p=2) (hR:R p x) :
  ∃ E2,Ext E E2∧Rel (XP orcT) (Ot R τ (w0.heap[0]?)) E2 (hOf rows) (tg p 103 104 102) w∧(∀ id,200≤id→¬ E2.D id)∧(∀ b,E2.B b→b=0∨w0.heap.size≤b)∧E2.D 105∧E2.sy 105=.slice A τ.length c∧E2.ι=E.ι∧∀ b o,Ow b o→b < w.heap.size∧w.heap[b]?=some o∧¬ E2.B b∧∀ id,hOf rows id≠none→E2.ι id≠b:=by
 obtain ⟨x',col,K⟩:=h.rel.out;obtain rfl:x'=x:=by have:=K.ph; exact this
 have hlt:=fun k hk=>ht.lt k hk
 have h0:0 < nb:=h.ltB 0 ((K.inB 0).2 (by rw [K.c0]; decide));have hx:Ext E (E.nm 105 (.slice A τ.length c) fun b=>E.B b∨(Value.slice A τ.length c).ownBlock=some b):=Env.nm_ext h.n56.1;have hc:∀ {i:Nat},i≠0→∀ b,col b=i→(if (Value.slice A τ.length c).ownBlock=some b then 5 else col b)=i:=fun hi b e=>by
  rw [if_neg (fun hk=>by
   have h1:=(hlt b hk).1;have h2:=h.ltB b ((K.inB b).2 (by rw [e]; exact hi));omega),e]
 have no:∀ {i:Nat},∀ b,b < w.heap.size→col b=i→¬ (fun _:Nat=>False) b:=fun _ _ _ h=>h
 have hm:Mv (fun _=>False) w w:=Mv.refl _ w;have hp64:p < 64:=by rcases hp with rfl | rfl <;> decide
 have e1:tP (tg p 103 104 102)=p:=tg_P hp64;have e2:tV (tg p 103 104 102)=103:=tg_V hp64 (by decide);have e3:tL (tg p 103 104 102)=104:=tg_L hp64 (by decide) (by decide);have e4:tD (tg p 103 104 102)=102:=tg_D hp64 (by decide) (by decide);have a2:tV (tg 0 103 104 102)=103:=by decide
 have a3:tL (tg 0 103 104 102)=104:=by decide
 have a4:tD (tg 0 103 104 102)=102:=by decide
 obtain ⟨gf,A1,c1,A1',c1',f1,f2⟩:=K.fv;rw [a2] at f2;have kd:=K.dic;have kl:=K.log;rw [a4] at kd;rw [a3] at kl;have ok:(Ot R τ (w0.heap[0]?)).ok (tg p 103 104 102) (E.nm 105 (.slice A τ.length c) fun b=>E.B b∨(Value.slice A τ.length c).ownBlock=some b) w :=
  ⟨x',fun b=>if (Value.slice A τ.length c).ownBlock=some b then 5 else col b,{ inB:=fun b=>?_,ltB:=fun b hb=>?_,c0:=hc (by decide) 0 K.c0,z:=K.z,g:=K.g,ph:=(by rw [e1]; exact hR),m3:=K.m3,fv:=⟨gf,A1,c1,A1',c1',f1.mv hx hm no (hc (by decide)),(by rw [e2]; exact fun _=>(f2 (by decide)).mv hx hm no (hc (by decide)))⟩,dic:=(by rw [e4]; exact fun _=>(kd (by decide)).mv hx hm no (hc (by decide))),log:=(by rw [e3]; exact fun _=>(kl (by decide)).mv hx hm no (hc (by decide))),txt:=fun _=>⟨A,c,Env.nm_D,Env.nm_sy,OB.rbp ht fun k hk=>if_pos hk⟩,ent:=(by rw [e1]; exact fun h=>absurd h (by omega)) }⟩
 ·refine ⟨_,hx,h.rel.over hx (fun b hB=>?_) (fun i hi=>rfl) ok,fun id hi hD=>?_,fun b hB=>?_,Env.nm_D,Env.nm_sy,rfl,fun b o ho=>?_⟩
  ·rcases hB with hB | hB
   ·exact ⟨h.rel.lt b hB,fun i hi e=>h.rel.apart i hi (e ▸ hB)⟩
   ·exact ⟨(hlt b hB).2,fun i hi e=>by have:=h.ltR i hi; have:=(hlt b hB).1; omega⟩
  ·rcases hD with hD | hD
   ·exact h.fresh id hi hD
   ·omega
  ·rcases hB with hB | hB
   ·exact h.oldB b hB
   ·have:=(hlt b hB).1; have:=h.nb.2; exact .inr (by omega)
  ·obtain ⟨a1,a2,a3,a4⟩:=h.own b o ho
   refine ⟨Nat.lt_of_lt_of_le a1 h.nb.1,a2,fun hB=>?_,a4⟩;rcases hB with hB | hB
   ·exact a3 hB
   ·have:=(hlt b hB).1
    omega
 ·show (E.B b∨(Value.slice A τ.length c).ownBlock=some b)↔_
  by_cases hk:(Value.slice A τ.length c).ownBlock=some b
  ·rw [if_pos hk]; exact ⟨fun _=>by decide,fun _=>.inr hk⟩
  ·rw [if_neg hk,← K.inB]; exact ⟨fun h=>h.resolve_right hk,fun h=>.inl h⟩
 ·by_cases hk:(Value.slice A τ.length c).ownBlock=some b
  ·exact (hlt b hk).2
  ·rw [if_neg hk] at hb; exact K.ltB b hb
theorem hOf_append {l:List (Nat×Ob)} {k:Nat} {o:Ob} (hk:hOf l k=none):hOf (l ++ [(k,o)])=fun i=>if i=k then some o else hOf l i:=by
 funext i
 induction l with
 | nil =>
  show (match Nat.beq k i with | true=>some o | false=>none)=_
  by_cases e:i=k
  ·subst e; rw [Nat.beq_refl,if_pos rfl]
  ·rw [if_neg e]
   cases hb:Nat.beq k i with
   | false=>rfl
   | true=>exact absurd (Nat.eq_of_beq_eq_true hb).symm e
 | cons p l ih =>
  show (match Nat.beq p.1 i with | true=>some p.2 | false=>hOf (l ++ [(k,o)]) i)=_;have hk':hOf l k=none∧Nat.beq p.1 k=false:=by
   unfold hOf at hk;cases hb:Nat.beq p.1 k with
   | false=>rw [hb] at hk; exact ⟨hk,rfl⟩
   | true=>rw [hb] at hk; cases hk
  rw [show hOf (p :: l) i=(match Nat.beq p.1 i with | true=>some p.2 | false=>hOf l i) from rfl];cases hb:Nat.beq p.1 i with
  | false=>exact ih hk'.1
  | true =>
   have:i≠k:=fun e=>by rw [← e] at hk'; rw [hb] at hk'; cases hk'.2
   rw [if_neg this]
def WdM (w:World) (nb k b0 b1 b2 b3:Nat):Prop:=nb≤k∧w.heap[k]?=some (.cells #[.int .u8 (b0:Int),.int .u8 (b1:Int),.int .u8 (b2:Int),.int .u8 (b3:Int)] 5 (4,5))
theorem hs_word {E:Env} (h:HsE rows w0 w x bp fp nb Ow E) {k b0 b1 b2 b3:Nat} (ht:WdM w nb k b0 b1 b2 b3) (hn:hOf rows 106=none) {R:Nat→Dt→Prop} {p:Nat} (hp:p < 64∧p≠1∧p≠2∧p≠21) (hR:R p x) :
  ∃ E2,Ext E E2∧Rel (XP orcT) (Ot R [] (w0.heap[0]?)) E2 (hOf (rows ++ [wordR [b0,b1,b2,b3]])) (tg p 103 104 102) w∧(∀ id,200≤id→¬ E2.D id)∧E2.B=E.B∧RA E2 (.sl 106 0 4 none 1) (.slice (some ⟨k,0,none⟩) 4 4)∧(∀ id,hOf (rows ++ [wordR [b0,b1,b2,b3]]) id≠none→w0.heap.size≤E2.ι id)∧∀ b o,Ow b o→b < w.heap.size∧w.heap[b]?=some o∧¬ E2.B b∧∀ id,hOf (rows ++ [wordR [b0,b1,b2,b3]]) id≠none→E2.ι id≠b:=by
 obtain ⟨x',col,K⟩:=h.rel.out;obtain rfl:x'=x:=by have:=K.ph; exact this
 obtain ⟨hk1,hcur⟩:=ht;have hk2:k < w.heap.size:=(Array.getElem?_eq_some_iff.1 hcur).1;obtain ⟨E2,hE2⟩:∃ E2:Env,E2={ E with ι:=fun i=>if i=106 then k else E.ι i,sh:=fun i=>if i=106 then 0 else E.sh i,κ:=fun i=>if i=106 then 4 else E.κ i,D:=fun i=>E.D i∨i=106 }:=⟨_,rfl⟩;have i6:E2.ι 106=k:=by rw [hE2]; show (if (106:Nat)=106 then k else E.ι 106)=k; exact if_pos rfl
 have s6:E2.sh 106=0:=by rw [hE2]; show (if (106:Nat)=106 then 0 else E.sh 106)=0; exact if_pos rfl
 have q6:E2.κ 106=4:=by rw [hE2]; show (if (106:Nat)=106 then 4 else E.κ 106)=4; exact if_pos rfl
 have d6:E2.D 106:=by rw [hE2]; exact .inr rfl
 have hBB:E2.B=E.B:=by rw [hE2]
 have hDD:∀ id,E2.D id→E.D id∨id=106:=fun id h=>by rw [hE2] at h; exact h
 have iold:∀ id,id≠106→E2.ι id=E.ι id:=fun id hid=>by rw [hE2]; exact if_neg hid
 have hx:Ext E E2:=fun id hd=>by
  have hne:id≠106:=fun e=>h.n56.2 (e ▸ hd)
  rw [hE2];exact ⟨.inl hd,if_neg hne,if_neg hne,if_neg hne,rfl⟩
 clear hE2;have ro:RO E2 106 w (.row (u8 [b0,b1,b2,b3]) 5):=by
  refine ⟨#[.int .u8 (b0:Int),.int .u8 (b1:Int),.int .u8 (b2:Int),.int .u8 (b3:Int)],(4,5),by rw [i6]; exact hcur,by rw [q6]; rfl,by rw [s6]; exact Nat.le_refl 4,.inr (Nat.le_refl 4),fun i ce hi=>?_⟩;rw [s6,Nat.zero_add]
  match i,hi with
  | 0,hi=>injection hi with hi; subst hi; exact ⟨_,rfl,rfl,rfl⟩
  | 1,hi=>injection hi with hi; subst hi; exact ⟨_,rfl,rfl,rfl⟩
  | 2,hi=>injection hi with hi; subst hi; exact ⟨_,rfl,rfl,rfl⟩
  | 3,hi=>injection hi with hi; subst hi; exact ⟨_,rfl,rfl,rfl⟩
  | i + 4,hi=>cases hi
 have hm:Mv (fun _=>False) w w:=Mv.refl _ w;have no:∀ {i:Nat},∀ b,b < w.heap.size→col b=i→¬ (fun _:Nat=>False) b:=fun _ _ _ h=>h
 have e1:tP (tg p 103 104 102)=p:=tg_P hp.1;have e2:tV (tg p 103 104 102)=103:=tg_V hp.1 (by decide);have e3:tL (tg p 103 104 102)=104:=tg_L hp.1 (by decide) (by decide);have e4:tD (tg p 103 104 102)=102:=tg_D hp.1 (by decide) (by decide);have a2:tV (tg 0 103 104 102)=103:=by decide
 have a3:tL (tg 0 103 104 102)=104:=by decide
 have a4:tD (tg 0 103 104 102)=102:=by decide
 obtain ⟨gf,A1,c1,A1',c1',f1,f2⟩:=K.fv;rw [a2] at f2;have kd:=K.dic;have kl:=K.log;rw [a4] at kd;rw [a3] at kl;have ok:(Ot R [] (w0.heap[0]?)).ok (tg p 103 104 102) E2 w :=
  ⟨x',col,{ inB:=fun b=>by rw [hBB]; exact K.inB b,ltB:=K.ltB,c0:=K.c0,z:=K.z,g:=K.g,ph:=(by rw [e1]; exact hR),m3:=K.m3,fv:=⟨gf,A1,c1,A1',c1',f1.mv hx hm no fun _ h=>h,(by rw [e2]; exact fun _=>(f2 (by decide)).mv hx hm no fun _ h=>h)⟩,dic:=(by rw [e4]; exact fun _=>(kd (by decide)).mv hx hm no fun _ h=>h),log:=(by rw [e3]; exact fun _=>(kl (by decide)).mv hx hm no fun _ h=>h),txt:=(by rw [e1]; exact fun h=>absurd h (by omega)),ent:=(by rw [e1]; exact fun h=>absurd h (by omega)) }⟩
 have hap:hOf (rows ++ [wordR [b0,b1,b2,b3]])=fun i=>if i=106 then some (.row (u8 [b0,b1,b2,b3]) 5) else hOf rows i:=hOf_append hn
 refine ⟨E2,hx,?_,fun id hi hD=>?_,hBB,⟨d6,_,4,rfl,Nat.le_refl 4,.inr ⟨by rw [i6,s6],by rw [s6,q6]; decide⟩,(fun k hk=>by cases hk),fun _=>by decide⟩,fun id hi=>?_,fun b o ho=>?_⟩
 ·rw [hap]
  exact h.rel.add hx d6 ro hBB hn (fun i hi=>by rw [i6]; have:=h.ltR i hi; omega) (by rw [i6]; exact fun hB=>by have:=h.ltB k hB; omega) ok
 ·rcases hDD id hD with hD | hD
  ·exact h.fresh id hi hD
  ·omega
 ·rw [hap] at hi
  by_cases e:id=106
  ·rw [e,i6]; have:=h.nb.2; omega
  ·dsimp only at hi
   rw [if_neg e] at hi;rw [iold id e];exact h.oldR id hi
 ·obtain ⟨a1,a2,a3,a4⟩:=h.own b o ho
  refine ⟨Nat.lt_of_lt_of_le a1 h.nb.1,a2,by rw [hBB]; exact a3,fun id hi=>?_⟩;rw [hap] at hi
  by_cases e:id=106
  ·rw [e,i6]; omega
  ·dsimp only at hi
   rw [if_neg e] at hi;rw [iold id e];exact a4 id hi
end
end Go.Proofs.YtijegngfclkdaaaGreatDoor.Ev
namespace Go.Proofs.YtijegngfclkdaaaGreatDoor.Ev
open Go Go.RowKit Tw
def Ch:List (Nat×(Dt→Prop))→Nat→Dt→Prop
 | [],_,_=>False
 | q :: r,p,y=>(q.1=p∧q.2 y)∨Ch r p y
theorem ch_no {P:Prop} {p:Nat} {y:Dt}:∀ {l:List (Nat×(Dt→Prop))},Ch l p y→l.all (fun q=>!Nat.beq q.1 p)=true→P
 | [],h,_=>h.elim
 | q :: r,h,hn=>by
  rw [List.all_cons,Bool.and_eq_true] at hn;rcases h with ⟨e,_⟩ | h
  ·rw [e,Nat.beq_refl] at hn
   cases hn.1
  ·exact ch_no h hn.2
theorem ne_no {a b:Nat} {P:Prop} (e:a=b) (h:Nat.beq a b=false):P:=by
 rw [e,Nat.beq_refl] at h;cases h
def pokD (x:Dt) (i:Int) (τ:List UInt8):Dt:={ x with D:=Dc.pokeS x.D i 0 τ }
def StoQ (x y:Dt):Prop:=∃ bs:List UInt8,bs.length=Sn.sizeV (Sn.ofS x.D)∧y=cmdD x (appD x 1 bs) (Sn.ofS x.D)
def RstQ (x y:Dt):Prop:=y=cmdD x (appD x 2 []) []
def onD (x:Dt):Dt:={ x with f:={ x.f with off:=false } }
def opnD (x:Dt):Dt:={ x with V:=openV x.f x.m x.D }
def ldD (x:Dt):Dt:={ x with D:=loadD x.D x.V.s }
def rstD (x:Dt):Dt:=ldD (opnD (onD x))
def newD (x:Dt):Dt:={ x with D:=⟨esW,esW.map (·.dflt)⟩ }
theorem openV_off (f:Fla) (m:Nat) (D:Dc.Dic):(openV f m D).off=false:=by
 unfold openV;split
 ·split
  ·rfl
  ·split <;> rfl
 ·rfl
section
variable {x:Dt} {τ:List UInt8}
theorem good_write1 (hs:Small τ) (ho:x.V.off=false):Good (Ch [(1,(·=x)),(3,(·=pokD x 8192 τ))]) τ :=
 {poke1:=fun y h=>by
   rcases h with ⟨_,rfl⟩ | ⟨e,_⟩ | h
   ·exact ⟨hs,.inr (.inl ⟨rfl,rfl⟩)⟩
   ·exact ne_no e rfl
   ·exact h.elim,
  poke2:=fun _ h=>ch_no h rfl,
  rs10:=fun _ h=>ch_no h rfl,
  rs11:=fun _ h=>ch_no h rfl,
  rs12:=fun _ h=>ch_no h rfl,
  off9:=fun _ h=>ch_no h rfl,
  odd19:=fun _ h=>ch_no h rfl,
  odd20:=fun _ h=>ch_no h rfl,
  start13:=fun _ h=>ch_no h rfl,
  start14:=fun _ h=>ch_no h rfl,
  open15:=fun _ h=>ch_no h rfl,
  open16:=fun _ h=>ch_no h rfl,
  open22:=fun _ h=>ch_no h rfl,
  load17:=fun _ h=>ch_no h rfl,
  load18:=fun _ h=>ch_no h rfl,
  new21:=fun _ h=>ch_no h rfl,
  st4:=fun _ _ h=>ch_no h rfl,
  st5:=fun _ _ h=>ch_no h rfl,
  st6:=fun _ _ h=>ch_no h rfl,
  offn:=fun p y hp h=>by
   rcases h with ⟨e,_⟩ | ⟨_,rfl⟩ | h
   ·have e:1=p:=e
    omega
   ·exact ho
   ·exact h.elim }
theorem good_write2 (hs:Small τ) (ho:x.V.off=false):Good (Ch [(2,(·=x)),(3,(·=pokD x 8193 τ))]) τ :=
 {poke1:=fun _ h=>ch_no h rfl,
  poke2:=fun y h=>by
   rcases h with ⟨_,rfl⟩ | ⟨e,_⟩ | h
   ·exact ⟨hs,.inr (.inl ⟨rfl,rfl⟩)⟩
   ·exact ne_no e rfl
   ·exact h.elim,
  rs10:=fun _ h=>ch_no h rfl,
  rs11:=fun _ h=>ch_no h rfl,
  rs12:=fun _ h=>ch_no h rfl,
  off9:=fun _ h=>ch_no h rfl,
  odd19:=fun _ h=>ch_no h rfl,
  odd20:=fun _ h=>ch_no h rfl,
  start13:=fun _ h=>ch_no h rfl,
  start14:=fun _ h=>ch_no h rfl,
  open15:=fun _ h=>ch_no h rfl,
  open16:=fun _ h=>ch_no h rfl,
  open22:=fun _ h=>ch_no h rfl,
  load17:=fun _ h=>ch_no h rfl,
  load18:=fun _ h=>ch_no h rfl,
  new21:=fun _ h=>ch_no h rfl,
  st4:=fun _ _ h=>ch_no h rfl,
  st5:=fun _ _ h=>ch_no h rfl,
  st6:=fun _ _ h=>ch_no h rfl,
  offn:=fun p y hp h=>by
   rcases h with ⟨e,_⟩ | ⟨_,rfl⟩ | h
   ·have e:2=p:=e
    omega
   ·exact ho
   ·exact h.elim }
theorem endV_off7 {V:Vau} {o:ApO} {l:List Dc.Vl} (h:o.code=7):(endV (apV V o) l o.code).off=true:=by
 rw [h]; rfl
theorem endV_off0 {V:Vau} {o:ApO} {l:List Dc.Vl} (h:o.code=0) (hV:V.off=false):(endV (apV V o) l o.code).off=false:=by
 rw [h]; exact hV
theorem endV_offw {V:Vau} {o:ApO} {l:List Dc.Vl} (h:o.code≠0) (h7:o.code≠7):(endV (apV V o) l o.code).off=false:=by
 unfold endV;rw [if_neg h];exact decide_eq_false h7
theorem good_store_ok (hC:Cmd x (Sn.sizeV (Sn.ofS x.D))) (hc:∀ bs:List UInt8,bs.length=Sn.sizeV (Sn.ofS x.D)→(appD x 1 bs).code=0):Good (Ch [(4,(·=x)),(7,StoQ x)]) [] :=
 {poke1:=fun _ h=>ch_no h rfl,
  poke2:=fun _ h=>ch_no h rfl,
  rs10:=fun _ h=>ch_no h rfl,
  rs11:=fun _ h=>ch_no h rfl,
  rs12:=fun _ h=>ch_no h rfl,
  off9:=fun _ h=>ch_no h rfl,
  odd19:=fun _ h=>ch_no h rfl,
  odd20:=fun _ h=>ch_no h rfl,
  start13:=fun _ h=>ch_no h rfl,
  start14:=fun _ h=>ch_no h rfl,
  open15:=fun _ h=>ch_no h rfl,
  open16:=fun _ h=>ch_no h rfl,
  open22:=fun _ h=>ch_no h rfl,
  load17:=fun _ h=>ch_no h rfl,
  load18:=fun _ h=>ch_no h rfl,
  new21:=fun _ h=>ch_no h rfl,
  st4:=fun y _ h=>by
   rcases h with ⟨_,rfl⟩ | ⟨e,_⟩ | h
   ·exact ⟨hC,fun bs hb=>⟨hc bs hb,.inr (.inl ⟨rfl,bs,hb,rfl⟩)⟩⟩
   ·exact ne_no e rfl
   ·exact h.elim,
  st5:=fun _ _ h=>ch_no h rfl,
  st6:=fun _ _ h=>ch_no h rfl,
  offn:=fun p y hp h=>by
   rcases h with ⟨e,_⟩ | ⟨_,bs,hb,rfl⟩ | h
   ·have e:4=p:=e
    omega
   ·exact endV_off0 (hc bs hb) hC.1
   ·exact h.elim }
theorem good_store_worn (hC:Cmd x (Sn.sizeV (Sn.ofS x.D))) (hc:∀ bs:List UInt8,bs.length=Sn.sizeV (Sn.ofS x.D)→(appD x 1 bs).code≠0∧(appD x 1 bs).code≠7):Good (Ch [(5,(·=x)),(8,StoQ x)]) [] :=
 {poke1:=fun _ h=>ch_no h rfl,
  poke2:=fun _ h=>ch_no h rfl,
  rs10:=fun _ h=>ch_no h rfl,
  rs11:=fun _ h=>ch_no h rfl,
  rs12:=fun _ h=>ch_no h rfl,
  off9:=fun _ h=>ch_no h rfl,
  odd19:=fun _ h=>ch_no h rfl,
  odd20:=fun _ h=>ch_no h rfl,
  start13:=fun _ h=>ch_no h rfl,
  start14:=fun _ h=>ch_no h rfl,
  open15:=fun _ h=>ch_no h rfl,
  open16:=fun _ h=>ch_no h rfl,
  open22:=fun _ h=>ch_no h rfl,
  load17:=fun _ h=>ch_no h rfl,
  load18:=fun _ h=>ch_no h rfl,
  new21:=fun _ h=>ch_no h rfl,
  st4:=fun _ _ h=>ch_no h rfl,
  st5:=fun y _ h=>by
   rcases h with ⟨_,rfl⟩ | ⟨e,_⟩ | h
   ·exact ⟨hC,fun bs hb=>⟨(hc bs hb).1,.inr (.inl ⟨rfl,bs,hb,rfl⟩)⟩⟩
   ·exact ne_no e rfl
   ·exact h.elim,
  st6:=fun _ _ h=>ch_no h rfl,
  offn:=fun p y hp h=>by
   rcases h with ⟨e,_⟩ | ⟨_,bs,hb,rfl⟩ | h
   ·have e:5=p:=e
    omega
   ·exact endV_offw (hc bs hb).1 (hc bs hb).2
   ·exact h.elim }
theorem good_store_off (hC:Cmd x (Sn.sizeV (Sn.ofS x.D))) (hc:∀ bs:List UInt8,bs.length=Sn.sizeV (Sn.ofS x.D)→(appD x 1 bs).code=7):Good (Ch [(6,(·=x)),(9,StoQ x)]) [] :=
 {poke1:=fun _ h=>ch_no h rfl,
  poke2:=fun _ h=>ch_no h rfl,
  rs10:=fun _ h=>ch_no h rfl,
  rs11:=fun _ h=>ch_no h rfl,
  rs12:=fun _ h=>ch_no h rfl,
  off9:=fun y h=>by
   rcases h with ⟨e,_⟩ | ⟨_,bs,hb,rfl⟩ | h
   ·exact ne_no e rfl
   ·exact endV_off7 (hc bs hb)
   ·exact h.elim,
  odd19:=fun _ h=>ch_no h rfl,
  odd20:=fun _ h=>ch_no h rfl,
  start13:=fun _ h=>ch_no h rfl,
  start14:=fun _ h=>ch_no h rfl,
  open15:=fun _ h=>ch_no h rfl,
  open16:=fun _ h=>ch_no h rfl,
  open22:=fun _ h=>ch_no h rfl,
  load17:=fun _ h=>ch_no h rfl,
  load18:=fun _ h=>ch_no h rfl,
  new21:=fun _ h=>ch_no h rfl,
  st4:=fun _ _ h=>ch_no h rfl,
  st5:=fun _ _ h=>ch_no h rfl,
  st6:=fun y _ h=>by
   rcases h with ⟨_,rfl⟩ | ⟨e,_⟩ | h
   ·exact ⟨hC,fun bs hb=>⟨(by rw [hc bs hb]; decide),.inr (.inl ⟨rfl,bs,hb,rfl⟩)⟩⟩
   ·exact ne_no e rfl
   ·exact h.elim,
  offn:=fun p y hp h=>by
   rcases h with ⟨e,_⟩ | ⟨e,_⟩ | h
   ·have e:6=p:=e
    omega
   ·have e:9=p:=e
    omega
   ·exact h.elim }
theorem good_rest_ok (hC:Cmd x 0) (hc:(appD x 2 []).code=0):Good (Ch [(10,(·=x)),(7,RstQ x)]) [] :=
 {poke1:=fun _ h=>ch_no h rfl,
  poke2:=fun _ h=>ch_no h rfl,
  rs10:=fun y h=>by
   rcases h with ⟨_,rfl⟩ | ⟨e,_⟩ | h
   ·exact ⟨hC,hc,.inr (.inl ⟨rfl,rfl⟩)⟩
   ·exact ne_no e rfl
   ·exact h.elim,
  rs11:=fun _ h=>ch_no h rfl,
  rs12:=fun _ h=>ch_no h rfl,
  off9:=fun _ h=>ch_no h rfl,
  odd19:=fun _ h=>ch_no h rfl,
  odd20:=fun _ h=>ch_no h rfl,
  start13:=fun _ h=>ch_no h rfl,
  start14:=fun _ h=>ch_no h rfl,
  open15:=fun _ h=>ch_no h rfl,
  open16:=fun _ h=>ch_no h rfl,
  open22:=fun _ h=>ch_no h rfl,
  load17:=fun _ h=>ch_no h rfl,
  load18:=fun _ h=>ch_no h rfl,
  new21:=fun _ h=>ch_no h rfl,
  st4:=fun _ _ h=>ch_no h rfl,
  st5:=fun _ _ h=>ch_no h rfl,
  st6:=fun _ _ h=>ch_no h rfl,
  offn:=fun p y hp h=>by
   rcases h with ⟨e,_⟩ | ⟨_,rfl⟩ | h
   ·have e:10=p:=e
    omega
   ·exact endV_off0 (hc) hC.1
   ·exact h.elim }
theorem good_rest_worn (hC:Cmd x 0) (hc:(appD x 2 []).code≠0∧(appD x 2 []).code≠7):Good (Ch [(11,(·=x)),(8,RstQ x)]) [] :=
 {poke1:=fun _ h=>ch_no h rfl,
  poke2:=fun _ h=>ch_no h rfl,
  rs10:=fun _ h=>ch_no h rfl,
  rs11:=fun y h=>by
   rcases h with ⟨_,rfl⟩ | ⟨e,_⟩ | h
   ·exact ⟨hC,(hc).1,.inr (.inl ⟨rfl,rfl⟩)⟩
   ·exact ne_no e rfl
   ·exact h.elim,
  rs12:=fun _ h=>ch_no h rfl,
  off9:=fun _ h=>ch_no h rfl,
  odd19:=fun _ h=>ch_no h rfl,
  odd20:=fun _ h=>ch_no h rfl,
  start13:=fun _ h=>ch_no h rfl,
  start14:=fun _ h=>ch_no h rfl,
  open15:=fun _ h=>ch_no h rfl,
  open16:=fun _ h=>ch_no h rfl,
  open22:=fun _ h=>ch_no h rfl,
  load17:=fun _ h=>ch_no h rfl,
  load18:=fun _ h=>ch_no h rfl,
  new21:=fun _ h=>ch_no h rfl,
  st4:=fun _ _ h=>ch_no h rfl,
  st5:=fun _ _ h=>ch_no h rfl,
  st6:=fun _ _ h=>ch_no h rfl,
  offn:=fun p y hp h=>by
   rcases h with ⟨e,_⟩ | ⟨_,rfl⟩ | h
   ·have e:11=p:=e
    omega
   ·exact endV_offw (hc).1 (hc).2
   ·exact h.elim }
theorem good_rest_off (hC:Cmd x 0) (hc:(appD x 2 []).code=7):Good (Ch [(12,(·=x)),(9,RstQ x)]) [] :=
 {poke1:=fun _ h=>ch_no h rfl,
  poke2:=fun _ h=>ch_no h rfl,
  rs10:=fun _ h=>ch_no h rfl,
  rs11:=fun _ h=>ch_no h rfl,
  rs12:=fun y h=>by
   rcases h with ⟨_,rfl⟩ | ⟨e,_⟩ | h
   ·exact ⟨hC,(by rw [hc]; decide),.inr (.inl ⟨rfl,rfl⟩)⟩
   ·exact ne_no e rfl
   ·exact h.elim,
  off9:=fun y h=>by
   rcases h with ⟨e,_⟩ | ⟨_,rfl⟩ | h
   ·exact ne_no e rfl
   ·exact endV_off7 (hc)
   ·exact h.elim,
  odd19:=fun _ h=>ch_no h rfl,
  odd20:=fun _ h=>ch_no h rfl,
  start13:=fun _ h=>ch_no h rfl,
  start14:=fun _ h=>ch_no h rfl,
  open15:=fun _ h=>ch_no h rfl,
  open16:=fun _ h=>ch_no h rfl,
  open22:=fun _ h=>ch_no h rfl,
  load17:=fun _ h=>ch_no h rfl,
  load18:=fun _ h=>ch_no h rfl,
  new21:=fun _ h=>ch_no h rfl,
  st4:=fun _ _ h=>ch_no h rfl,
  st5:=fun _ _ h=>ch_no h rfl,
  st6:=fun _ _ h=>ch_no h rfl,
  offn:=fun p y hp h=>by
   rcases h with ⟨e,_⟩ | ⟨e,_⟩ | h
   ·have e:12=p:=e
    omega
   ·have e:9=p:=e
    omega
   ·exact h.elim }
theorem good_reset (ho:(rstD x).V.odd=false):Good (Ch [(13,(·=x)),(15,(·=onD x)),(17,(·=opnD (onD x))),(19,(·=rstD x))]) [] :=
 {poke1:=fun _ h=>ch_no h rfl,
  poke2:=fun _ h=>ch_no h rfl,
  rs10:=fun _ h=>ch_no h rfl,
  rs11:=fun _ h=>ch_no h rfl,
  rs12:=fun _ h=>ch_no h rfl,
  off9:=fun _ h=>ch_no h rfl,
  odd19:=fun y h=>by
   rcases h with ⟨e,_⟩ | ⟨e,_⟩ | ⟨e,_⟩ | ⟨_,rfl⟩ | h
   ·exact ne_no e rfl
   ·exact ne_no e rfl
   ·exact ne_no e rfl
   ·exact ho
   ·exact h.elim,
  odd20:=fun _ h=>ch_no h rfl,
  start13:=fun y h=>by
   rcases h with ⟨_,rfl⟩ | ⟨e,_⟩ | ⟨e,_⟩ | ⟨e,_⟩ | h
   ·exact .inr (.inl ⟨rfl,rfl⟩)
   ·exact ne_no e rfl
   ·exact ne_no e rfl
   ·exact ne_no e rfl
   ·exact h.elim,
  start14:=fun _ h=>ch_no h rfl,
  open15:=fun y h=>by
   rcases h with ⟨e,_⟩ | ⟨_,rfl⟩ | ⟨e,_⟩ | ⟨e,_⟩ | h
   ·exact ne_no e rfl
   ·exact ⟨rfl,.inr (.inr (.inl ⟨rfl,rfl⟩))⟩
   ·exact ne_no e rfl
   ·exact ne_no e rfl
   ·exact h.elim,
  open16:=fun _ h=>ch_no h rfl,
  open22:=fun _ h=>ch_no h rfl,
  load17:=fun y h=>by
   rcases h with ⟨e,_⟩ | ⟨e,_⟩ | ⟨_,rfl⟩ | ⟨e,_⟩ | h
   ·exact ne_no e rfl
   ·exact ne_no e rfl
   ·exact .inr (.inr (.inr (.inl ⟨rfl,rfl⟩)))
   ·exact ne_no e rfl
   ·exact h.elim,
  load18:=fun _ h=>ch_no h rfl,
  new21:=fun _ h=>ch_no h rfl,
  st4:=fun _ _ h=>ch_no h rfl,
  st5:=fun _ _ h=>ch_no h rfl,
  st6:=fun _ _ h=>ch_no h rfl,
  offn:=fun p y hp h=>by
   rcases h with ⟨e,_⟩ | ⟨e,_⟩ | ⟨e,_⟩ | ⟨_,rfl⟩ | h
   ·have e:13=p:=e
    omega
   ·have e:15=p:=e
    omega
   ·have e:17=p:=e
    omega
   ·exact openV_off _ _ _
   ·exact h.elim }
theorem good_resetodd (ho:(rstD x).V.odd=true):Good (Ch [(14,(·=x)),(16,(·=onD x)),(18,(·=opnD (onD x))),(20,(·=rstD x))]) [] :=
 {poke1:=fun _ h=>ch_no h rfl,
  poke2:=fun _ h=>ch_no h rfl,
  rs10:=fun _ h=>ch_no h rfl,
  rs11:=fun _ h=>ch_no h rfl,
  rs12:=fun _ h=>ch_no h rfl,
  off9:=fun _ h=>ch_no h rfl,
  odd19:=fun _ h=>ch_no h rfl,
  odd20:=fun y h=>by
   rcases h with ⟨e,_⟩ | ⟨e,_⟩ | ⟨e,_⟩ | ⟨_,rfl⟩ | h
   ·exact ne_no e rfl
   ·exact ne_no e rfl
   ·exact ne_no e rfl
   ·exact ho
   ·exact h.elim,
  start13:=fun _ h=>ch_no h rfl,
  start14:=fun y h=>by
   rcases h with ⟨_,rfl⟩ | ⟨e,_⟩ | ⟨e,_⟩ | ⟨e,_⟩ | h
   ·exact .inr (.inl ⟨rfl,rfl⟩)
   ·exact ne_no e rfl
   ·exact ne_no e rfl
   ·exact ne_no e rfl
   ·exact h.elim,
  open15:=fun _ h=>ch_no h rfl,
  open16:=fun y h=>by
   rcases h with ⟨e,_⟩ | ⟨_,rfl⟩ | ⟨e,_⟩ | ⟨e,_⟩ | h
   ·exact ne_no e rfl
   ·exact ⟨rfl,.inr (.inr (.inl ⟨rfl,rfl⟩))⟩
   ·exact ne_no e rfl
   ·exact ne_no e rfl
   ·exact h.elim,
  open22:=fun _ h=>ch_no h rfl,
  load17:=fun _ h=>ch_no h rfl,
  load18:=fun y h=>by
   rcases h with ⟨e,_⟩ | ⟨e,_⟩ | ⟨_,rfl⟩ | ⟨e,_⟩ | h
   ·exact ne_no e rfl
   ·exact ne_no e rfl
   ·exact .inr (.inr (.inr (.inl ⟨rfl,rfl⟩)))
   ·exact ne_no e rfl
   ·exact h.elim,
  new21:=fun _ h=>ch_no h rfl,
  st4:=fun _ _ h=>ch_no h rfl,
  st5:=fun _ _ h=>ch_no h rfl,
  st6:=fun _ _ h=>ch_no h rfl,
  offn:=fun p y hp h=>by
   rcases h with ⟨e,_⟩ | ⟨e,_⟩ | ⟨e,_⟩ | ⟨_,rfl⟩ | h
   ·have e:14=p:=e
    omega
   ·have e:16=p:=e
    omega
   ·have e:18=p:=e
    omega
   ·exact openV_off _ _ _
   ·exact h.elim }
theorem good_new (hf:x.f.off=false) (ho:(ldD (opnD (newD x))).V.odd=false):Good (Ch [(21,(·=x)),(22,(·=newD x)),(17,(·=opnD (newD x))),(19,(·=ldD (opnD (newD x))))]) [] :=
 {poke1:=fun _ h=>ch_no h rfl,
  poke2:=fun _ h=>ch_no h rfl,
  rs10:=fun _ h=>ch_no h rfl,
  rs11:=fun _ h=>ch_no h rfl,
  rs12:=fun _ h=>ch_no h rfl,
  off9:=fun _ h=>ch_no h rfl,
  odd19:=fun y h=>by
   rcases h with ⟨e,_⟩ | ⟨e,_⟩ | ⟨e,_⟩ | ⟨_,rfl⟩ | h
   ·exact ne_no e rfl
   ·exact ne_no e rfl
   ·exact ne_no e rfl
   ·exact ho
   ·exact h.elim,
  odd20:=fun _ h=>ch_no h rfl,
  start13:=fun _ h=>ch_no h rfl,
  start14:=fun _ h=>ch_no h rfl,
  open15:=fun _ h=>ch_no h rfl,
  open16:=fun _ h=>ch_no h rfl,
  open22:=fun y h=>by
   rcases h with ⟨e,_⟩ | ⟨_,rfl⟩ | ⟨e,_⟩ | ⟨e,_⟩ | h
   ·exact ne_no e rfl
   ·exact ⟨hf,.inr (.inr (.inl ⟨rfl,rfl⟩))⟩
   ·exact ne_no e rfl
   ·exact ne_no e rfl
   ·exact h.elim,
  load17:=fun y h=>by
   rcases h with ⟨e,_⟩ | ⟨e,_⟩ | ⟨_,rfl⟩ | ⟨e,_⟩ | h
   ·exact ne_no e rfl
   ·exact ne_no e rfl
   ·exact .inr (.inr (.inr (.inl ⟨rfl,rfl⟩)))
   ·exact ne_no e rfl
   ·exact h.elim,
  load18:=fun _ h=>ch_no h rfl,
  new21:=fun y h=>by
   rcases h with ⟨_,rfl⟩ | ⟨e,_⟩ | ⟨e,_⟩ | ⟨e,_⟩ | h
   ·exact .inr (.inl ⟨rfl,rfl⟩)
   ·exact ne_no e rfl
   ·exact ne_no e rfl
   ·exact ne_no e rfl
   ·exact h.elim,
  st4:=fun _ _ h=>ch_no h rfl,
  st5:=fun _ _ h=>ch_no h rfl,
  st6:=fun _ _ h=>ch_no h rfl,
  offn:=fun p y hp h=>by
   rcases h with ⟨e,_⟩ | ⟨e,_⟩ | ⟨e,_⟩ | ⟨_,rfl⟩ | h
   ·have e:21=p:=e
    omega
   ·have e:22=p:=e
    omega
   ·have e:17=p:=e
    omega
   ·exact openV_off _ _ _
   ·exact h.elim }
end
section
variable {rows post:List (Nat×Ob)} {w0 w:World} {x:Dt} {bp fp:Value} {nb:Nat} {Ow:Nat→Obj→Prop}
theorem HsE.f101 {E:Env} (h:HsE rows w0 w x bp fp nb Ow E):E.D 101:=by
 obtain ⟨x',col,K⟩:=h.rel.out;obtain ⟨gf,A,c,A',c',f1,_⟩:=K.fv;exact f1.nm
theorem ev_go {E E2:Env} (h:HsE rows w0 w x bp fp nb Ow E) {R:Nat→Dt→Prop} {τ:List UInt8} (G:Good R τ) {M:Memo} (hf:((XP orcT).fn M.f).isSome=true) (hb:memoB (XP orcT) 1000000 M=true) {r:List (Nat×Nat×Nat)} (hw:wkAll (renL (XP orcT).ng r) M.post post=true) (hk:renOK (XP orcT).ng 200 r=true) {p kv kl kd:Nat} (hg:M.g'=tg p kv kl kd) (hp:p < 64) (hv:kv < 65536∧kv≠0) (hl:kl < 65536∧kl≠0) (hd:kd≠0)
  (n:Names (renL (XP orcT).ng r) kv kl kd) (hbus:renL (XP orcT).ng r 110=some (110,0)) (hx:Ext E E2) (hc:M.c=200) (S:Rel (XP orcT) (Ot R τ (w0.heap[0]?)) E2 (hOf M.pre) M.g w) (fresh:∀ id,200≤id→¬ E2.D id) (oldR:∀ id,hOf M.pre id≠none→w0.heap.size≤E2.ι id) (oldB:∀ b,E2.B b→b=0∨w0.heap.size≤b) (own:∀ b o,Ow b o→b < w.heap.size∧w.heap[b]?=some o∧¬ E2.B b∧∀ id,hOf M.pre id≠none→E2.ι id≠b)
  {vals:List Value} (ha:Rel2 (RV E2) M.args vals) :
  Calls Tryz.prog M.f vals.toArray w fun e w'=>∃ y E',e=.returned y∧RV E' M.v y∧∃ x',R p x'∧Hs post w0 w' x' bp fp w'.heap.size Ow:=by
 refine (stepG (fp:=fp) (bpf:=fun _=>bp) G hf hb hw hk hg hp hv hl hd n hbus S (by rw [hc]; exact fresh) oldR oldB ⟨(hx 101 h.f101).1,by rw [(hx 101 h.f101).2.2.2.2]; exact h.fls⟩ h.bel own (fun E' y h1 _=>(h.bus.ext hx).ext h1) ha).mono ?_;rintro e w' ⟨y,E',rfl,hy,_,x',hx',hs⟩;exact ⟨y,E',rfl,hy,x',hx',hs⟩
def evV (k i:Int) (s:Value):Value:=.agg #[.int .i64 k,.int .i64 0,.bool false,.slice none 0 0,.int .i64 i,.int .i64 0,s,.int .i64 0,.int .u32 0]
theorem ev_write {m:Ob} (hm:m=map0∨m=map1) (h:Hs (idleR m) w0 w x bp fp nb Ow) (ho:x.V.off=false) {A:Option Addr} {c:Nat} {τ:List UInt8} (ht:OB w nb A τ.length c τ) (hs:Small τ) {i:Nat} (hi:i < 2) :
  Calls Tryz.prog 8 #[bp,evV 2 ((8192 + i:Nat):Int) (.slice A τ.length c)] w fun e w'=>(∃ y,e=.returned y)∧Hs (idleR m) w0 w' (pokD x ((8192 + i:Nat):Int) τ) bp fp w'.heap.size Ow:=by
 obtain ⟨E,h⟩:=h;have key:∀ (M:Memo) (r:List (Nat×Nat×Nat)) (p:Nat) (G:Good (Ch [(p,(·=x)),(3,(·=pokD x ((8192 + i:Nat):Int) τ))]) τ) (hp:p=1∨p=2) (hfn:M.f=8) (hf:((XP orcT).fn M.f).isSome=true) (hb:memoB (XP orcT) 1000000 M=true) (hpre:M.pre=idleR m) (hw:wkAll (renL (XP orcT).ng r) M.post (idleR m)=true) (hk:renOK (XP orcT).ng 200 r=true) (hg0:M.g=tg p 103 104 102) (hg:M.g'=tg 3 103 104 102) (hc:M.c=200) (n:Names (renL (XP orcT).ng r) 103 104 102) (hbus:renL (XP orcT).ng r 110=some (110,0))
   (hargs:M.args=[(.w (.one (.a (.ptr 110 0)))),(.w (.agg [(.a (.v (.int .i64 2))),(.a (.v (.int .i64 0))),(.a (.v (.bool false))),(.a (.v (.slice none 0 0))),(.a (.v (.int .i64 ((8192 + i:Nat):Int)))),(.a (.v (.int .i64 0))),(.a (.sym 105)),(.a (.v (.int .i64 0))),(.a (.v (.int .u32 0)))]))]),
   Calls Tryz.prog 8 #[bp,evV 2 ((8192 + i:Nat):Int) (.slice A τ.length c)] w fun e w'=>(∃ y,e=.returned y)∧Hs (idleR m) w0 w' (pokD x ((8192 + i:Nat):Int) τ) bp fp w'.heap.size Ow:=fun M r p G hp hfn hf hb hpre hw hk hg0 hg hc n hbus hargs=>by
  obtain ⟨E2,hx,S,fr,oB,d5,s5,iot,ow⟩:=hs_text h ht hp (R:=Ch [(p,(·=x)),(3,(·=pokD x ((8192 + i:Nat):Int) τ))]) (.inl ⟨rfl,rfl⟩);have:=ev_go h G hf hb hw hk hg (by decide) (by decide) (by decide) (by decide) n hbus hx hc (by rw [hpre,hg0]; exact S) fr (by rw [hpre,iot]; exact h.oldR) oB (by rw [hpre]; exact ow) (vals:=[bp,evV 2 ((8192 + i:Nat):Int) (.slice A τ.length c)]) (by
   rw [hargs];exact ⟨h.bus.ext hx,⟨_,rfl,⟨rfl,rfl⟩,⟨rfl,rfl⟩,⟨rfl,rfl⟩,⟨rfl,rfl⟩,⟨rfl,rfl⟩,⟨rfl,rfl⟩,⟨d5,s5.symm,rfl⟩,⟨rfl,rfl⟩,⟨rfl,rfl⟩,trivial⟩,trivial⟩)
  rw [hfn] at this;refine this.mono ?_;rintro e w' ⟨y,E',rfl,_,x',hx',hs'⟩;refine ⟨⟨y,rfl⟩,?_⟩;rcases hx' with ⟨e,_⟩ | ⟨_,rfl⟩ | hx'
  ·have e:p=3:=e
   omega
  ·exact hs'
  ·exact hx'.elim
 have nm:∀ {r:List (Nat×Nat×Nat)},renL (XP orcT).ng r 101=some (101,0)→renL (XP orcT).ng r 102=some (102,0)→renL (XP orcT).ng r 103=some (103,0)→renL (XP orcT).ng r 104=some (104,0)→renL (XP orcT).ng r 105=none→renL (XP orcT).ng r 106=none→Names (renL (XP orcT).ng r) 103 104 102:=fun h1 h2 h3 h4 h5 h6=>⟨⟨_,h1⟩,⟨_,h2⟩,⟨_,h3⟩,⟨_,h4⟩,h5,h6⟩
 have hi:i=0∨i=1:=by omega
 rcases hm with rfl | rfl
 ·rcases hi with rfl | rfl
  ·exact key b_write00 b_write00_r 1 (good_write1 hs ho) (.inl rfl) rfl (by kernel_rfl) b_write00_b rfl b_write00_w b_write00_k rfl rfl rfl (nm rfl rfl rfl rfl rfl rfl) rfl rfl
  ·exact key b_write10 b_write10_r 2 (good_write2 hs ho) (.inr rfl) rfl (by kernel_rfl) b_write10_b rfl b_write10_w b_write10_k rfl rfl rfl (nm rfl rfl rfl rfl rfl rfl) rfl rfl
 ·rcases hi with rfl | rfl
  ·exact key b_write01 b_write01_r 1 (good_write1 hs ho) (.inl rfl) rfl (by kernel_rfl) b_write01_b rfl b_write01_w b_write01_k rfl rfl rfl (nm rfl rfl rfl rfl rfl rfl) rfl rfl
  ·exact key b_write11 b_write11_r 2 (good_write2 hs ho) (.inr rfl) rfl (by kernel_rfl) b_write11_b rfl b_write11_w b_write11_k rfl rfl rfl (nm rfl rfl rfl rfl rfl rfl) rfl rfl
theorem names_of {r:List (Nat×Nat×Nat)} {kv kl kd s1 s2 s3 s4:Nat} (h1:renL (XP orcT).ng r 101=some (101,s1)) (h2:renL (XP orcT).ng r 102=some (kd,s2)) (h3:renL (XP orcT).ng r 103=some (kv,s3)) (h4:renL (XP orcT).ng r 104=some (kl,s4)) (h5:renL (XP orcT).ng r 105=none) (h6:renL (XP orcT).ng r 106=none):Names (renL (XP orcT).ng r) kv kl kd:=⟨⟨_,h1⟩,⟨_,h2⟩,⟨_,h3⟩,⟨_,h4⟩,h5,h6⟩
theorem ev_set {m:Ob} (h:Hs (idleR m) w0 w x bp fp nb Ow) (hn:hOf (idleR m) 106=none) {k b0 b1 b2 b3:Nat} (ht:WdM w nb k b0 b1 b2 b3) {Q:Dt→Prop} {M:Memo} {r:List (Nat×Nat×Nat)} {p q kl:Nat} {ix:Int} (G:Good (Ch [(p,(·=x)),(q,Q)]) []) (hp:p < 64∧p≠1∧p≠2∧p≠21) (hq:q < 64∧p≠q) (hfn:M.f=12) (hf:((XP orcT).fn M.f).isSome=true) (hb:memoB (XP orcT) 1000000 M=true) (hpre:M.pre=idleR m ++ [wordR [b0,b1,b2,b3]])
  (hw:wkAll (renL (XP orcT).ng r) M.post post=true) (hk:renOK (XP orcT).ng 200 r=true) (hg0:M.g=tg p 103 104 102) (hg:M.g'=tg q 103 kl 102) (hkl:kl < 65536∧kl≠0) (hc:M.c=200) (n:Names (renL (XP orcT).ng r) 103 kl 102) (hbus:renL (XP orcT).ng r 110=some (110,0))
  (hargs:M.args=[(.w (.one (.a (.ptr 110 0)))),(.w (.one (.a (.v (.int .i64 ix))))),(.w (.one (.a (.v (.int .i64 1))))),(.w (.one (.a (.sl 106 0 4 none 1)))),(.w (.one (.a (.v (.int .i64 0)))))]) :
  Calls Tryz.prog 12 #[bp,.int .i64 ix,.int .i64 1,.slice (some ⟨k,0,none⟩) 4 4,.int .i64 0] w fun e w'=>(∃ y,e=.returned y)∧∃ x',Q x'∧Hs post w0 w' x' bp fp w'.heap.size Ow:=by
 obtain ⟨E,h⟩:=h;obtain ⟨E2,hx,S,fr,hBB,hra,old,ow⟩:=hs_word h ht hn hp (R:=Ch [(p,(·=x)),(q,Q)]) (.inl ⟨rfl,rfl⟩);have:=ev_go h G hf hb hw hk hg hq.1 (by decide) hkl (by decide) n hbus hx hc (by rw [hpre,hg0]; exact S) fr (by rw [hpre]; exact old) (by rw [hBB]; exact h.oldB) (by rw [hpre]; exact ow) (vals:=[bp,.int .i64 ix,.int .i64 1,.slice (some ⟨k,0,none⟩) 4 4,.int .i64 0]) (by
  rw [hargs];exact ⟨h.bus.ext hx,⟨rfl,rfl⟩,⟨rfl,rfl⟩,hra,⟨rfl,rfl⟩,trivial⟩)
 rw [hfn] at this;refine this.mono ?_;rintro e w' ⟨y,E',rfl,_,x',hx',hs'⟩;refine ⟨⟨y,rfl⟩,?_⟩;rcases hx' with ⟨e,_⟩ | ⟨_,hQ⟩ | hx'
 ·exact absurd e hq.2
 ·exact ⟨x',hQ,hs'⟩
 ·exact hx'.elim
def SetP (kind d:Nat) (w0 w':World) (x:Dt) (bp fp:Value) (Ow:Nat→Obj→Prop):Prop:=∃ (bs:List UInt8) (l:List Dc.Vl),bs.length=d∧(((appD x kind bs).code≠7∧Hs (idleR map0) w0 w' (cmdD x (appD x kind bs) l) bp fp w'.heap.size Ow)∨((appD x kind bs).code=7∧Hs offR w0 w' (cmdD x (appD x kind bs) l) bp fp w'.heap.size Ow))
theorem ev_store {m:Ob} (hm:m=map0∨m=map1) (h:Hs (idleR m) w0 w x bp fp nb Ow) (hC:Cmd x (Sn.sizeV (Sn.ofS x.D))) {k:Nat} (ht:WdM w nb k 115 97 118 101) :
  Calls Tryz.prog 12 #[bp,.int .i64 4112,.int .i64 1,.slice (some ⟨k,0,none⟩) 4 4,.int .i64 0] w fun e w'=>(∃ y,e=.returned y)∧SetP 1 (Sn.sizeV (Sn.ofS x.D)) w0 w' x bp fp Ow:=by
 have all:∀ bs:List UInt8,bs.length=Sn.sizeV (Sn.ofS x.D)→(appD x 1 bs).code=(appD x 1 (List.replicate (Sn.sizeV (Sn.ofS x.D)) 0)).code:=fun bs hb=>Wr.app_code (by rw [hb,List.length_replicate])
 generalize hz:(appD x 1 (List.replicate (Sn.sizeV (Sn.ofS x.D)) 0)).code=z at all
 by_cases e:z=0
 ·rcases hm with rfl | rfl
  ·refine (ev_set h rfl ht (good_store_ok hC (fun bs hb=>(all bs hb).trans e)) ⟨by decide,by decide,by decide,by decide⟩ ⟨by decide,by decide⟩ rfl (by kernel_rfl) b_store_ok0_b rfl b_store_ok0_w b_store_ok0_k rfl rfl ⟨by decide,by decide⟩ rfl (names_of (kv:=103) (kl:=331) (kd:=102) rfl rfl rfl rfl rfl rfl) rfl rfl).mono ?_
   rintro e' w' ⟨hy,x',hq,hs⟩;obtain ⟨bs,hl,rfl⟩:=hq;exact ⟨hy,bs,_,hl,.inl ⟨by rw [(all bs hl),e]; decide,hs⟩⟩
  ·refine (ev_set h rfl ht (good_store_ok hC (fun bs hb=>(all bs hb).trans e)) ⟨by decide,by decide,by decide,by decide⟩ ⟨by decide,by decide⟩ rfl (by kernel_rfl) b_store_ok1_b rfl b_store_ok1_w b_store_ok1_k rfl rfl ⟨by decide,by decide⟩ rfl (names_of (kv:=103) (kl:=331) (kd:=102) rfl rfl rfl rfl rfl rfl) rfl rfl).mono ?_
   rintro e' w' ⟨hy,x',hq,hs⟩;obtain ⟨bs,hl,rfl⟩:=hq;exact ⟨hy,bs,_,hl,.inl ⟨by rw [(all bs hl),e]; decide,hs⟩⟩
 by_cases e7:z=7
 ·rcases hm with rfl | rfl
  ·refine (ev_set h rfl ht (good_store_off hC (fun bs hb=>(all bs hb).trans e7)) ⟨by decide,by decide,by decide,by decide⟩ ⟨by decide,by decide⟩ rfl (by kernel_rfl) b_store_off0_b rfl b_store_off0_w b_store_off0_k rfl rfl ⟨by decide,by decide⟩ rfl (names_of (kv:=103) (kl:=104) (kd:=102) rfl rfl rfl rfl rfl rfl) rfl rfl).mono ?_
   rintro e' w' ⟨hy,x',hq,hs⟩;obtain ⟨bs,hl,rfl⟩:=hq;exact ⟨hy,bs,_,hl,.inr ⟨by rw [(all bs hl)]; exact e7,hs⟩⟩
  ·refine (ev_set h rfl ht (good_store_off hC (fun bs hb=>(all bs hb).trans e7)) ⟨by decide,by decide,by decide,by decide⟩ ⟨by decide,by decide⟩ rfl (by kernel_rfl) b_store_off1_b rfl b_store_off1_w b_store_off1_k rfl rfl ⟨by decide,by decide⟩ rfl (names_of (kv:=103) (kl:=104) (kd:=102) rfl rfl rfl rfl rfl rfl) rfl rfl).mono ?_
   rintro e' w' ⟨hy,x',hq,hs⟩;obtain ⟨bs,hl,rfl⟩:=hq;exact ⟨hy,bs,_,hl,.inr ⟨by rw [(all bs hl)]; exact e7,hs⟩⟩
 ·rcases hm with rfl | rfl
  ·refine (ev_set h rfl ht (good_store_worn hC (fun bs hb=>by rw [all bs hb]; exact ⟨e,e7⟩)) ⟨by decide,by decide,by decide,by decide⟩ ⟨by decide,by decide⟩ rfl (by kernel_rfl) b_store_worn0_b rfl b_store_worn0_w b_store_worn0_k rfl rfl ⟨by decide,by decide⟩ rfl (names_of (kv:=103) (kl:=331) (kd:=102) rfl rfl rfl rfl rfl rfl) rfl rfl).mono ?_
   rintro e' w' ⟨hy,x',hq,hs⟩;obtain ⟨bs,hl,rfl⟩:=hq;exact ⟨hy,bs,_,hl,.inl ⟨by rw [(all bs hl)]; exact e7,hs⟩⟩
  ·refine (ev_set h rfl ht (good_store_worn hC (fun bs hb=>by rw [all bs hb]; exact ⟨e,e7⟩)) ⟨by decide,by decide,by decide,by decide⟩ ⟨by decide,by decide⟩ rfl (by kernel_rfl) b_store_worn1_b rfl b_store_worn1_w b_store_worn1_k rfl rfl ⟨by decide,by decide⟩ rfl (names_of (kv:=103) (kl:=331) (kd:=102) rfl rfl rfl rfl rfl rfl) rfl rfl).mono ?_
   rintro e' w' ⟨hy,x',hq,hs⟩;obtain ⟨bs,hl,rfl⟩:=hq;exact ⟨hy,bs,_,hl,.inl ⟨by rw [(all bs hl)]; exact e7,hs⟩⟩
theorem ev_rest {m:Ob} (hm:m=map0∨m=map1) (h:Hs (idleR m) w0 w x bp fp nb Ow) (hC:Cmd x 0) {k:Nat} (ht:WdM w nb k 108 111 97 100) :
  Calls Tryz.prog 12 #[bp,.int .i64 4113,.int .i64 1,.slice (some ⟨k,0,none⟩) 4 4,.int .i64 0] w fun e w'=>(∃ y,e=.returned y)∧SetP 2 0 w0 w' x bp fp Ow:=by
 generalize hz:(appD x 2 []).code=z
 by_cases e:z=0
 ·rcases hm with rfl | rfl
  ·refine (ev_set h rfl ht (good_rest_ok hC (hz.trans e)) ⟨by decide,by decide,by decide,by decide⟩ ⟨by decide,by decide⟩ rfl (by kernel_rfl) b_rest_ok0_b rfl b_rest_ok0_w b_rest_ok0_k rfl rfl ⟨by decide,by decide⟩ rfl (names_of (kv:=103) (kl:=331) (kd:=102) rfl rfl rfl rfl rfl rfl) rfl rfl).mono ?_
   rintro e' w' ⟨hy,x',hq,hs⟩;subst hq;exact ⟨hy,[],_,rfl,.inl ⟨by rw [hz,e]; decide,hs⟩⟩
  ·refine (ev_set h rfl ht (good_rest_ok hC (hz.trans e)) ⟨by decide,by decide,by decide,by decide⟩ ⟨by decide,by decide⟩ rfl (by kernel_rfl) b_rest_ok1_b rfl b_rest_ok1_w b_rest_ok1_k rfl rfl ⟨by decide,by decide⟩ rfl (names_of (kv:=103) (kl:=331) (kd:=102) rfl rfl rfl rfl rfl rfl) rfl rfl).mono ?_
   rintro e' w' ⟨hy,x',hq,hs⟩;subst hq;exact ⟨hy,[],_,rfl,.inl ⟨by rw [hz,e]; decide,hs⟩⟩
 by_cases e7:z=7
 ·rcases hm with rfl | rfl
  ·refine (ev_set h rfl ht (good_rest_off hC (hz.trans e7)) ⟨by decide,by decide,by decide,by decide⟩ ⟨by decide,by decide⟩ rfl (by kernel_rfl) b_rest_off0_b rfl b_rest_off0_w b_rest_off0_k rfl rfl ⟨by decide,by decide⟩ rfl (names_of (kv:=103) (kl:=104) (kd:=102) rfl rfl rfl rfl rfl rfl) rfl rfl).mono ?_
   rintro e' w' ⟨hy,x',hq,hs⟩;subst hq;exact ⟨hy,[],_,rfl,.inr ⟨by rw [hz]; exact e7,hs⟩⟩
  ·refine (ev_set h rfl ht (good_rest_off hC (hz.trans e7)) ⟨by decide,by decide,by decide,by decide⟩ ⟨by decide,by decide⟩ rfl (by kernel_rfl) b_rest_off1_b rfl b_rest_off1_w b_rest_off1_k rfl rfl ⟨by decide,by decide⟩ rfl (names_of (kv:=103) (kl:=104) (kd:=102) rfl rfl rfl rfl rfl rfl) rfl rfl).mono ?_
   rintro e' w' ⟨hy,x',hq,hs⟩;subst hq;exact ⟨hy,[],_,rfl,.inr ⟨by rw [hz]; exact e7,hs⟩⟩
 ·rcases hm with rfl | rfl
  ·refine (ev_set h rfl ht (good_rest_worn hC (by rw [hz]; exact ⟨e,e7⟩)) ⟨by decide,by decide,by decide,by decide⟩ ⟨by decide,by decide⟩ rfl (by kernel_rfl) b_rest_worn0_b rfl b_rest_worn0_w b_rest_worn0_k rfl rfl ⟨by decide,by decide⟩ rfl (names_of (kv:=103) (kl:=331) (kd:=102) rfl rfl rfl rfl rfl rfl) rfl rfl).mono ?_
   rintro e' w' ⟨hy,x',hq,hs⟩;subst hq;exact ⟨hy,[],_,rfl,.inl ⟨by rw [hz]; exact e7,hs⟩⟩
  ·refine (ev_set h rfl ht (good_rest_worn hC (by rw [hz]; exact ⟨e,e7⟩)) ⟨by decide,by decide,by decide,by decide⟩ ⟨by decide,by decide⟩ rfl (by kernel_rfl) b_rest_worn1_b rfl b_rest_worn1_w b_rest_worn1_k rfl rfl ⟨by decide,by decide⟩ rfl (names_of (kv:=103) (kl:=331) (kd:=102) rfl rfl rfl rfl rfl rfl) rfl rfl).mono ?_
   rintro e' w' ⟨hy,x',hq,hs⟩;subst hq;exact ⟨hy,[],_,rfl,.inl ⟨by rw [hz]; exact e7,hs⟩⟩
theorem hs_phase {E:Env} (h:HsE rows w0 w x bp fp nb Ow E) {R:Nat→Dt→Prop} {p:Nat} (hp:p < 64∧p≠1∧p≠2∧p≠21) (hR:R p x):Rel (XP orcT) (Ot R [] (w0.heap[0]?)) E (hOf rows) (tg p 103 104 102) w:=by
 obtain ⟨x',col,K⟩:=h.rel.out;obtain rfl:x'=x:=by have:=K.ph; exact this
 have e1:tP (tg p 103 104 102)=p:=tg_P hp.1;have e2:tV (tg p 103 104 102)=103:=tg_V hp.1 (by decide);have e3:tL (tg p 103 104 102)=104:=tg_L hp.1 (by decide) (by decide);have e4:tD (tg p 103 104 102)=102:=tg_D hp.1 (by decide) (by decide);have a2:tV (tg 0 103 104 102)=103:=by decide
 have a3:tL (tg 0 103 104 102)=104:=by decide
 have a4:tD (tg 0 103 104 102)=102:=by decide
 obtain ⟨gf,A1,c1,A1',c1',f1,f2⟩:=K.fv;rw [a2] at f2;have kd:=K.dic;have kl:=K.log;rw [a4] at kd;rw [a3] at kl;exact h.rel.over (Ext.refl E) (fun b hB=>⟨h.rel.lt b hB,fun i hi e=>h.rel.apart i hi (e ▸ hB)⟩) (fun i hi=>rfl)
  ⟨x',col,{ inB:=K.inB,ltB:=K.ltB,c0:=K.c0,z:=K.z,g:=K.g,ph:=(by rw [e1]; exact hR),m3:=K.m3,fv:=⟨gf,A1,c1,A1',c1',f1,(by rw [e2]; exact fun _=>f2 (by decide))⟩,dic:=(by rw [e4]; exact fun _=>kd (by decide)),log:=(by rw [e3]; exact fun _=>kl (by decide)),txt:=(by rw [e1]; exact fun h=>absurd h (by omega)),ent:=(by rw [e1]; exact fun h=>absurd h (by omega)) }⟩
theorem ev_reset (h:Hs offR w0 w x bp fp nb Ow):Calls Tryz.prog 8 #[bp,evV 3 0 (.slice none 0 0)] w fun e w'=>(∃ y,e=.returned y)∧Hs (idleR map1) w0 w' (rstD x) bp fp w'.heap.size Ow:=by
 obtain ⟨E,h⟩:=h;cases ho:(rstD x).V.odd with
 | false =>
  refine (ev_go (M:=b_reset) (r:=b_reset_r) (post:=idleR map1) h (good_reset ho) (by kernel_rfl) b_reset_b b_reset_w b_reset_k rfl (by decide) (by decide) (by decide) (by decide) (names_of (kv:=203) (kl:=253) (kd:=102) rfl rfl rfl rfl rfl rfl) rfl (Ext.refl E) rfl (hs_phase h ⟨by decide,by decide,by decide,by decide⟩ (.inl ⟨rfl,rfl⟩)) h.fresh h.oldR h.oldB (fun b o ho=>⟨Nat.lt_of_lt_of_le (h.own b o ho).1 h.nb.1,(h.own b o ho).2⟩) (vals:=[bp,evV 3 0 (.slice none 0 0)]) ⟨h.bus,⟨_,rfl,⟨rfl,rfl⟩,⟨rfl,rfl⟩,⟨rfl,rfl⟩,⟨rfl,rfl⟩,⟨rfl,rfl⟩,⟨rfl,rfl⟩,⟨rfl,rfl⟩,⟨rfl,rfl⟩,⟨rfl,rfl⟩,trivial⟩,trivial⟩).mono ?_;rintro e w' ⟨y,E',rfl,_,x',hx',hs'⟩;refine ⟨⟨y,rfl⟩,?_⟩;rcases hx' with ⟨e,_⟩ | ⟨e,_⟩ | ⟨e,_⟩ | ⟨_,rfl⟩ | h
  ·exact ne_no e rfl
  ·exact ne_no e rfl
  ·exact ne_no e rfl
  ·exact hs'
  ·exact h.elim
 | true =>
  refine (ev_go (M:=b_resetodd) (r:=b_resetodd_r) (post:=idleR map1) h (good_resetodd ho) (by kernel_rfl) b_resetodd_b b_resetodd_w b_resetodd_k rfl (by decide) (by decide) (by decide) (by decide) (names_of (kv:=203) (kl:=293) (kd:=102) rfl rfl rfl rfl rfl rfl) rfl (Ext.refl E) rfl (hs_phase h ⟨by decide,by decide,by decide,by decide⟩ (.inl ⟨rfl,rfl⟩)) h.fresh h.oldR h.oldB (fun b o ho=>⟨Nat.lt_of_lt_of_le (h.own b o ho).1 h.nb.1,(h.own b o ho).2⟩) (vals:=[bp,evV 3 0 (.slice none 0 0)]) ⟨h.bus,⟨_,rfl,⟨rfl,rfl⟩,⟨rfl,rfl⟩,⟨rfl,rfl⟩,⟨rfl,rfl⟩,⟨rfl,rfl⟩,⟨rfl,rfl⟩,⟨rfl,rfl⟩,⟨rfl,rfl⟩,⟨rfl,rfl⟩,trivial⟩,trivial⟩).mono ?_;rintro e w' ⟨y,E',rfl,_,x',hx',hs'⟩;refine ⟨⟨y,rfl⟩,?_⟩;rcases hx' with ⟨e,_⟩ | ⟨e,_⟩ | ⟨e,_⟩ | ⟨_,rfl⟩ | h
  ·exact ne_no e rfl
  ·exact ne_no e rfl
  ·exact ne_no e rfl
  ·exact hs'
  ·exact h.elim
def busOf:Value→Value
 | .tuple A=>A.toList.getD 0 (.bool false)
 | _=>.bool false
open Classical in
theorem ev_new {gf c m c':Nat} {A A':Option Addr} {f:Fla} (hf:FlM w w0.heap.size gf A (m * 1024) c A' m c' f) (hm:3≤m∧m≤8) (hoff:f.off=false) (hx:x={ x with m:=m,f:=f }) (hodd:(ldD (opnD (newD x))).V.odd=false) (hb:Below w0.heap.size w0 w) (hg:ErrG w) (h0:0 < w0.heap.size)
  {H N:Nat} {w1:World} {L:Option Addr} {cl B':Nat} (hL:∀ w2:World,N≤w2.heap.size→(∀ b,H≤b→b < N→w2.heap[b]?=w1.heap[b]?)→REn w2 N B' L 4 cl esW) (hL1:∀ b,H≤b→b < N→w.heap[b]?=w1.heap[b]?) (hN:N≤w.heap.size) (hB:B'≤N) (hH:w0.heap.size≤H) :
  Calls Tryz.prog 6 #[.slice L 4 cl,.int .i64 5,.pointer (some ⟨gf,0,none⟩)] w fun e w'=>∃ k,e=.returned (.tuple #[.pointer (some k),.int .i64 0])∧Hs (idleR map0) w0 w' (ldD (opnD (newD x))) (.pointer (some k)) (.pointer (some ⟨gf,0,none⟩)) w'.heap.size fun _ _=>False:=by
 have hFF:∀ q,FF gf A (m * 1024) c A' m c' q→w0.heap.size≤q∧q < w.heap.size:=fun q hq=>⟨by
  rcases hq with rfl | hq | hq
  ·exact hf.gb
  ·exact (hf.row.lt q hq.symm).1
  ·exact (hf.worn.lt q hq.symm).1,hf.lt hq⟩
 obtain ⟨col,hcol⟩:∃ col:Nat→Nat,col=fun b=>if b=0 then 9 else if FF gf A (m * 1024) c A' m c' b then 1 else if w0.heap.size≤b∧b < w.heap.size then 6 else 0:=⟨_,rfl⟩
 have c0:col 0=9:=by rw [hcol]; exact if_pos rfl
 have cF:∀ q,FF gf A (m * 1024) c A' m c' q→col q=1:=fun q hq=>by
  rw [hcol];dsimp only;rw [if_neg (by have:=hFF q hq; omega),if_pos hq]
 have cN:∀ b,col b≠0↔(b=0∨(w0.heap.size≤b∧b < w.heap.size)):=fun b=>by
  rw [hcol];dsimp only
  by_cases e:b=0
  ·rw [if_pos e]; exact ⟨fun _=>.inl e,fun _=>by decide⟩
  rw [if_neg e]
  by_cases e2:FF gf A (m * 1024) c A' m c' b
  ·rw [if_pos e2]; exact ⟨fun _=>.inr (hFF b e2),fun _=>by decide⟩
  rw [if_neg e2]
  by_cases e3:w0.heap.size≤b∧b < w.heap.size
  ·rw [if_pos e3]; exact ⟨fun _=>.inr e3,fun _=>by decide⟩
  ·rw [if_neg e3]; exact ⟨fun h=>absurd rfl h,fun h=>(h.elim e e3).elim⟩
 clear hcol;have hsz:=hb.size;obtain ⟨E,hE⟩:∃ E:Env,E={ ι:=fun i=>i,sh:=fun _=>0,κ:=fun _=>0,B:=fun b=>col b≠0,D:=fun i=>i < (XP orcT).ng∨i=101∨i=110,sy:=fun i=>if i=101 then .pointer (some ⟨gf,0,none⟩) else .slice L 4 cl }:=⟨_,rfl⟩;have E101:E.D 101∧E.sy 101=.pointer (some ⟨gf,0,none⟩):=by rw [hE]; exact ⟨.inr (.inl rfl),rfl⟩
 have E110:E.D 110∧E.sy 110=.slice L 4 cl:=by rw [hE]; exact ⟨.inr (.inr rfl),rfl⟩
 have EB:∀ b,E.B b↔col b≠0:=fun b=>by rw [hE]
 have EG:∀ b,b < (XP orcT).ng→E.D b∧E.ι b=b∧E.sh b=0:=fun b hb=>by rw [hE]; exact ⟨.inl hb,rfl,rfl⟩
 have ng:(XP orcT).ng≤200:=by
  have:Nat.ble (XP orcT).ng 200=true:=by kernel_rfl
  exact Nat.le_of_ble_eq_true this
 have fr:∀ id,200≤id→¬ E.D id:=fun id hi=>by
  rw [hE];rintro (h | h | h)
  ·have h:id < (XP orcT).ng:=h
   omega
  ·have h:id=101:=h
   omega
  ·have h:id=110:=h
   omega
 clear hE;have e1:tP (tg 21 0 0 0)=21:=tg_P (by decide);have e2:tV (tg 21 0 0 0)=0:=tg_V (by decide) (by decide);have e3:tL (tg 21 0 0 0)=0:=tg_L (by decide) (by decide) (by decide);have e4:tD (tg 21 0 0 0)=0:=tg_D (by decide) (by decide) (by decide);have xm:x.m=m:=by rw [hx]
 have xf:x.f=f:=by rw [hx]
 have ok:(Ot (Ch [(21,(·=x)),(22,(·=newD x)),(17,(·=opnD (newD x))),(19,(·=ldD (opnD (newD x))))]) [] (w0.heap[0]?)).ok (tg 21 0 0 0) E w :=
  ⟨x,col,{ inB:=EB,ltB:=fun b hb'=>by rcases (cN b).1 hb' with h | h <;> omega,c0:=c0,z:=hb.block 0 h0,g:=hg,ph:=(by rw [e1]; exact .inl ⟨rfl,rfl⟩),m3:=(by rw [xm]; exact hm),fv:=⟨gf,A,c,A',c',⟨E101.1,E101.2,(by rw [xm,xf]; exact hf.more (Nat.zero_le _)),(by rw [xm]; exact cF)⟩,(by rw [e2]; exact fun h=>absurd rfl h)⟩,dic:=(by rw [e4]; exact fun h=>absurd rfl h),log:=(by rw [e3]; exact fun h=>absurd rfl h),txt:=(by rw [e1]; exact fun h=>absurd h (by decide)),ent:=fun _=>⟨H,N,w1,L,cl,B',hL,hL1,hN,hB,E110.1,E110.2,fun b h1 h2=>(cN b).2 (.inr ⟨by omega,by omega⟩)⟩ }⟩
 have S:Rel (XP orcT) (Ot (Ch [(21,(·=x)),(22,(·=newD x)),(17,(·=opnD (newD x))),(19,(·=ldD (opnD (newD x))))]) [] (w0.heap[0]?)) E (hOf bNew.pre) bNew.g w :=
  ⟨fun id o h=>(by cases h),fun i j h=>absurd rfl h,fun i h=>absurd rfl h,EG,fun b hB=>(by rcases (cN b).1 ((EB b).1 hB) with h | h <;> omega),ok⟩
 have:=stepG (w0:=w0) (fp:=.pointer (some ⟨gf,0,none⟩)) (bpf:=busOf) (good_new (by rw [xf]; exact hoff) hodd) (m:=bNew) (by kernel_rfl) bNew_b (r:=bNew_r) (rows:=idleR map0) bNew_w bNew_k (p:=19) (kv:=202) (kl:=257) (kd:=200) rfl (by decide) (by decide) (by decide) (by decide) (names_of rfl rfl rfl rfl rfl rfl) (bs:=252) rfl S (fun id hi=>fr id hi) (fun id h=>absurd rfl h) (fun b hB=>by rcases (cN b).1 ((EB b).1 hB) with h | h <;> omega) ⟨E101.1,E101.2.symm⟩ hb (Ow:=fun _ _=>False) (fun _ _ h=>h.elim) (by
   rintro E' y _ ⟨B,rfl,h1⟩;obtain ⟨l⟩:=B
   match l,h1 with
   | [v,z],⟨h2,_⟩=>exact h2) (vals:=[.slice L 4 cl,.int .i64 5,.pointer (some ⟨gf,0,none⟩)]) ⟨⟨E110.1,E110.2.symm,rfl⟩,⟨rfl,rfl⟩,⟨E101.1,E101.2.symm,_,rfl⟩,trivial⟩
 refine this.mono ?_;rintro e w' ⟨y,E',rfl,⟨B,rfl,h1⟩,_,x',hx',hs'⟩;obtain ⟨l⟩:=B
 match l,h1 with
 | [v,z],⟨h2,h3,_⟩ =>
  obtain ⟨_,rfl⟩:E'.D 252∧v=_:=h2;obtain ⟨rfl,_⟩:z=.int .i64 0∧_:=h3;refine ⟨_,rfl,?_⟩;rcases hx' with ⟨e,_⟩ | ⟨e,_⟩ | ⟨e,_⟩ | ⟨_,rfl⟩ | h
  ·exact ne_no e rfl
  ·exact ne_no e rfl
  ·exact ne_no e rfl
  ·exact hs'
  ·exact h.elim
end
end Go.Proofs.YtijegngfclkdaaaGreatDoor.Ev
namespace Go.Proofs.YtijegngfclkdaaaGreatDoor.Ev
open Go Go.RowKit Tw
section
variable {rows:List (Nat×Ob)} {w0 w:World} {x:Dt} {bp fp:Value} {nb:Nat} {Ow:Nat→Obj→Prop}
theorem RO.cell {E:Env} {id:Nat} {l:List Ce} {ty:TypeId} (h:RO E id w (.row l ty)) {i:Nat} {c:Ce} (hc:l[i]?=some c):∃ v,w.cell? ⟨E.ι id,E.sh id + i,none⟩=some v∧RC E c v:=by
 obtain ⟨arr,fz,h1,_,_,_,h5⟩:=h;obtain ⟨v,hv,hr⟩:=h5 i c hc;refine ⟨v,?_,hr⟩;simp only [World.cell?,h1];exact hv
theorem hs_cells (h:Hs rows w0 w x bp fp nb Ow) {r0 l:List Ce} {on:Bool} (h1:hOf rows 110=some (.row ((.a (.ptr 111 0)) :: r0) 89)) (h2:hOf rows 111=some (.row l 110)) (h3:l[15]?=some (.a (.op 102))) (h4:l[18]?=some (.a (.v (.bool on)))) :
  ∃ ib ob il ol a,bp=.pointer (some ⟨ib,ob,none⟩)∧w.cell? ⟨ib,ob,none⟩=some (.pointer (some ⟨il,ol,none⟩))∧w.cell? ⟨il,ol + 15,none⟩=some (.pointer (some a))∧w.cell? ⟨il,ol + 18,none⟩=some (.bool on):=by
 obtain ⟨E,h⟩:=h;obtain ⟨d1,o1⟩:=h.rel.ob 110 _ h1;obtain ⟨d2,o2⟩:=h.rel.ob 111 _ h2;obtain ⟨v1,c1,g1⟩:=RO.cell o1 (i:=0) rfl;obtain ⟨v2,c2,g2⟩:=RO.cell o2 h3;obtain ⟨v3,c3,g3⟩:=RO.cell o2 h4;obtain ⟨_,rfl⟩:E.D 111∧v1=.pointer (some ⟨E.ι 111,E.sh 111 + 0,none⟩):=g1;obtain ⟨_,_,a,rfl⟩:E.D 102∧v2=E.sy 102∧∃ a,v2=.pointer (some a):=g2;obtain ⟨rfl,_⟩:v3=.bool on∧_:=g3;have hb:=h.bus.2;exact ⟨E.ι 110,E.sh 110,E.ι 111,E.sh 111,a,hb,c1,c2,c3⟩
end
section
variable {w:World} {ib ob il ol:Nat} {a:Addr} {on:Bool}
set_option maxHeartbeats 1000000
theorem bthere_any (c1:w.cell? ⟨ib,ob,none⟩=some (.pointer (some ⟨il,ol,none⟩))):Calls Tryz.prog 38 #[.pointer (some ⟨ib,ob,none⟩)] w fun e w'=>e=.returned (.bool true)∧w=w':=by
 go_enter Tryz.func38,Tryz.ntmps38
 go_wp2_with fail
 go_ret
 exact ⟨rfl,rfl⟩
theorem bnode_any (c1:w.cell? ⟨ib,ob,none⟩=some (.pointer (some ⟨il,ol,none⟩))):Calls Tryz.prog 13 #[.pointer (some ⟨ib,ob,none⟩)] w fun e w'=>e=.returned (.pointer (some ⟨il,ol,none⟩))∧w=w':=by
 have TH:=Lib.hid (bthere_any c1);go_enter Tryz.func13,Tryz.ntmps13
 go_wp2_with fail
 refine (TH.out).mono ?_;rintro e w1 ⟨rfl,rfl⟩;go_wp2_with fail
 go_ret
 exact ⟨rfl,rfl⟩
theorem nthere_any (c2:w.cell? ⟨il,ol + 15,none⟩=some (.pointer (some a))):Calls Tryz.prog 43 #[.pointer (some ⟨il,ol,none⟩)] w fun e w'=>e=.returned (.bool true)∧w=w':=by
 go_enter Tryz.func43,Tryz.ntmps43
 go_wp2_with fail
 go_ret
 exact ⟨rfl,rfl⟩
theorem nOn_any (c2:w.cell? ⟨il,ol + 15,none⟩=some (.pointer (some a))) (c3:w.cell? ⟨il,ol + 18,none⟩=some (.bool on)):Calls Tryz.prog 14 #[.pointer (some ⟨il,ol,none⟩)] w fun e w'=>e=.returned (.bool on)∧w=w':=by
 have TH:=Lib.hid (nthere_any c2);go_enter Tryz.func14,Tryz.ntmps14
 go_wp2_with fail
 refine (TH.out).mono ?_;rintro e w1 ⟨rfl,rfl⟩;go_wp2_with fail
 go_ret
 exact ⟨rfl,rfl⟩
end
end Go.Proofs.YtijegngfclkdaaaGreatDoor.Ev
namespace Go.Proofs.YtijegngfclkdaaaGreatDoor.Ev
open Go Go.RowKit Tw
structure Iv (n k c:Nat) (x:Dt):Prop where
 m:x.m=n
 n3:3≤n∧n≤8
 foff:x.f.off=false
 voff:x.V.off=false
 dead:x.V.dead=false
 J:Wr.JOk n x.V.L x.V.now x.V.has
 st:Wr.St n c (Wr.W x.f) x.V.has x.V.now (Wr.C x.V.L)
 wl:x.f.wear.length=n
 sum:x.f.wear.sum≤k
 most:x.f.most=1073741824
 ops:0≤x.f.ops∧x.f.ops≤1000 * (k:Int)
structure Wn (n k c:Nat) (x:Dt):Prop where
 m:x.m=n
 n3:3≤n∧n≤8
 s1:Wr.S1 n c (Wr.W x.f)
 wl:x.f.wear.length=n
 sum:x.f.wear.sum≤k
 most:x.f.most=1073741824
 ops:0≤x.f.ops∧x.f.ops≤1000 * (k:Int)
def cutD (x:Dt) (a z:Int):Dt:={ x with f:={ x.f with ahead:=a,mask:=z } }
theorem getD_le_sum:∀ (l:List Nat) (i:Nat),l.getD i 0≤l.sum
 | [],i=>by simp
 | a :: r,0=>by simp
 | a :: r,i + 1=>by have:=getD_le_sum r i; simp only [List.getD_cons_succ,List.sum_cons]; omega
section
variable {n k c:Nat} {x:Dt}
theorem Iv.poke (h:Iv n k c x) (i:Int) (τ:List UInt8):Iv n k c (pokD x i τ):=⟨h.m,h.n3,h.foff,h.voff,h.dead,h.J,h.st,h.wl,h.sum,h.most,h.ops⟩
theorem Iv.cut (h:Iv n k c x) (a z:Int):Iv n k c (cutD x a z):=⟨h.m,h.n3,h.foff,h.voff,h.dead,h.J,h.st,h.wl,h.sum,h.most,h.ops⟩
theorem Iv.cmd (h:Iv n k c x) (hk:k≤100) (ha:0≤x.f.ahead∧x.f.ahead≤1099511627776) (hz:0≤x.f.mask) {d:Nat} (hd:d≤522):Cmd x d:=by
 have hops:=h.ops;refine ⟨h.voff,h.dead,⟨h.foff,rfl,by rw [h.m]; have:=h.n3; omega,by rw [h.m]; exact h.n3.2,by rw [h.m]; exact h.J.len,by rw [h.most]; decide,fun i=>?_,fun hh=>by rw [h.m]; exact (h.J.newest hh).1,fun i=>⟨(h.J.ok i).fin,?_⟩,fun i=>(h.J.ok i).zero,h.J.num,⟨hz,by omega,by omega⟩⟩⟩
 ·have h1:=getD_le_sum x.f.wear i
  have h2:=h.sum;rw [h.most];omega
 ·have h1:=(h.J.ok i).cnt
  have h2:=(h.J.ok i).fin;have e:(x.V.L.getD i lk0).count=(x.V.L.getD i Jr.lk0).count:=rfl;rw [e];omega
theorem Iv.done (h:Iv n k c x) {kind:Nat} {bs:List UInt8} {l:List Dc.Vl} (hb:bs.length≤522) (h7:(appD x kind bs).code≠7):Iv n (k + 1) c (cmdD x (appD x kind bs) l)∧x.f.ops≤(appD x kind bs).f.ops∧(appD x kind bs).f.ops≤x.f.ops + 536:=by
 have A:Wr.ApL n c x.f x.V.L x.V.now x.V.has bs.length (appD x kind bs):=Wr.app_law h.J h.st h.wl (by omega);generalize appD x kind bs=o at *;have hw:=A.wear;have hs:=A.same;have ho:=A.ops;have h1:=h.sum;have h2:=h.ops;have ops:x.f.ops≤o.f.ops∧o.f.ops≤x.f.ops + 536:=by omega
 refine ⟨?_,ops⟩
 by_cases h0:o.code=0
 ·obtain ⟨g1,g2,g3,g4⟩:=A.done h0
  have e:endV (apV x.V o) l o.code={ apV x.V o with s:=l,odd:=false }:=by unfold endV; rw [if_pos h0]
  exact ⟨h.m,h.n3,g3.trans h.foff,by show (endV (apV x.V o) l o.code).off=false; rw [e]; exact h.voff,by show (endV (apV x.V o) l o.code).dead=false; rw [e]; exact g4,by show Wr.JOk n (endV (apV x.V o) l o.code).L (endV (apV x.V o) l o.code).now (endV (apV x.V o) l o.code).has; rw [e]; exact g1,by show Wr.St n c (Wr.W o.f) (endV (apV x.V o) l o.code).has (endV (apV x.V o) l o.code).now (Wr.C (endV (apV x.V o) l o.code).L); rw [e]; exact g2,by show o.f.wear.length=n; rw [hw.1]; exact h.wl,by show o.f.wear.sum≤k + 1; omega,hs.1.trans h.most,by show 0≤o.f.ops∧o.f.ops≤1000 * ((k + 1:Nat):Int); omega⟩
 ·have g:=A.no h0 h7
  have e:endV (apV x.V o) l o.code={ apV x.V o with off:=decide (o.code=7) }:=by unfold endV; rw [if_neg h0]
  have eL:o.L=x.V.L:=by rw [g]
  have en:o.now=x.V.now:=by rw [g]
  have eh:o.has=x.V.has:=by rw [g]
  have ed:o.dead=false:=by rw [g]
  have ef:o.f=x.f:=by rw [g]
  exact ⟨h.m,h.n3,by show o.f.off=false; rw [ef]; exact h.foff,by show (endV (apV x.V o) l o.code).off=false; rw [e]; exact decide_eq_false h7,by show (endV (apV x.V o) l o.code).dead=false; rw [e]; exact ed,by show Wr.JOk n (endV (apV x.V o) l o.code).L (endV (apV x.V o) l o.code).now (endV (apV x.V o) l o.code).has; rw [e]; show Wr.JOk n o.L o.now o.has; rw [eL,en,eh]; exact h.J,by show Wr.St n c (Wr.W o.f) (endV (apV x.V o) l o.code).has (endV (apV x.V o) l o.code).now (Wr.C (endV (apV x.V o) l o.code).L); rw [e]; show Wr.St n c (Wr.W o.f) o.has o.now (Wr.C o.L); rw [eL,en,eh,ef]; exact h.st,by show o.f.wear.length=n; rw [hw.1]; exact h.wl,by show o.f.wear.sum≤k + 1; omega,hs.1.trans h.most,by show 0≤o.f.ops∧o.f.ops≤1000 * ((k + 1:Nat):Int); omega⟩
theorem Iv.torn (h:Iv n k c x) {kind:Nat} {bs:List UInt8} {l:List Dc.Vl} (hb:bs.length≤522) (h7:(appD x kind bs).code=7):Wn n (k + 1) (c + 1) (cmdD x (appD x kind bs) l)∧x.f.ops≤(appD x kind bs).f.ops∧(appD x kind bs).f.ops≤x.f.ops + 536:=by
 have A:Wr.ApL n c x.f x.V.L x.V.now x.V.has bs.length (appD x kind bs):=Wr.app_law h.J h.st h.wl (by omega);generalize appD x kind bs=o at *;have hw:=A.wear;have hs:=A.same;have ho:=A.ops;have h1:=h.sum;have h2:=h.ops;refine ⟨⟨h.m,h.n3,(A.torn h7).1,?_,?_,hs.1.trans h.most,?_⟩,by omega⟩
 ·show o.f.wear.length=n
  rw [hw.1]; exact h.wl
 ·show o.f.wear.sum≤k + 1
  omega
 ·show 0≤o.f.ops∧o.f.ops≤1000 * ((k + 1:Nat):Int)
  omega
theorem openV_is (f:Fla) (m:Nat) (D:Dc.Dic):(openV f m D).L=looksK f m∧(openV f m D).now=(Jr.newN (looksK f m)).1∧(openV f m D).has=(Jr.newN (looksK f m)).2∧(openV f m D).dead=false:=by
 unfold openV;split
 ·split
  ·exact ⟨rfl,rfl,rfl,rfl⟩
  ·split <;> exact ⟨rfl,rfl,rfl,rfl⟩
 ·exact ⟨rfl,rfl,rfl,rfl⟩
theorem opened (hm:x.m=n) (h3:3≤n∧n≤8) (hoff:x.f.off=false) (s1:Wr.S1 n c (Wr.W x.f)) (hwl:x.f.wear.length=n) (hsum:x.f.wear.sum≤k) (hmost:x.f.most=1073741824) (hops:0≤x.f.ops∧x.f.ops≤1000 * (k:Int)):Iv n k c (ldD (opnD x)):=by
 obtain ⟨e1,e2,e3,e4⟩:=openV_is x.f x.m x.D;refine ⟨hm,h3,hoff,openV_off _ _ _,e4,?_,.inl s1,hwl,hsum,hmost,hops⟩;show Wr.JOk n (openV x.f x.m x.D).L (openV x.f x.m x.D).now (openV x.f x.m x.D).has;rw [e1,e2,e3,hm];exact Wr.JOk.open_ x.f n
theorem Wn.reset (h:Wn n k c x):Iv n k c (rstD x):=opened (x:=onD x) h.m h.n3 rfl h.s1 h.wl h.sum h.most h.ops
theorem Iv.far (h:Iv n k c x):∀ i j,i < n→j < n→Wr.W x.f i≤Wr.W x.f j + c + 2:=h.st.far
theorem ofS_blank (k:Nat):(Jr.ofS (List.replicate k 255)).count=0:=by
 show (Jr.goS _ (List.replicate k 255).length Jr.noRec 0 0).2.1=0;rw [List.length_replicate];cases k with
 | zero=>rfl
 | succ k =>
  have:Jr.parseS (List.replicate (k + 1) 255) 0=none:=by
   unfold Jr.parseS;split
   ·rfl
   ·rw [if_pos]
    rw [List.drop_zero,List.replicate_succ];show (255:UInt8)≠87;decide
  rw [Jr.goS,this]
theorem blank_new {f:Fla} {N m:Nat} (h:f.b=List.replicate N 255):(Jr.newN (looksK f m)).2=false:=by
 cases e:(Jr.newN (looksK f m)).2 with
 | false=>rfl
 | true =>
  obtain ⟨g1,g2,_⟩:=(Wr.newN_inv (looksK f m)).2 e;rw [looksK_len] at g1;generalize (Jr.newN (looksK f m)).1=p at *;have:Wr.C (looksK f m) p=0:=by
   unfold Wr.C;have e2:(looksK f m).getD p Jr.lk0=Jr.ofS (secB f p):=by
    rw [List.getD_eq_getElem?_getD,show looksK f m=(List.range m).map fun i=>Jr.ofS (secB f i) from rfl,List.getElem?_map,List.getElem?_range g1];rfl
   rw [e2];have e3:secB f p=List.replicate (min 1024 (N - p * 1024)) 255:=by
    unfold secB;rw [h,List.drop_replicate,List.take_replicate]
   rw [e3];exact ofS_blank _
  omega
theorem blank_odd {f:Fla} {N m:Nat} {D:Dc.Dic} (h:f.b=List.replicate N 255):(openV f m D).odd=false:=by
 unfold openV;rw [if_neg (fun hh=>by rw [blank_new h] at hh; cases hh.1)]
def fla0 (m:Nat):Fla:=⟨List.replicate (m * 1024) 255,List.replicate m 0,1073741824,false,-1,0,0⟩
def dt0 (m:Nat):Dt:=⟨m,fla0 m,⟨[],[]⟩,⟨[],0,false,false,[],false,false⟩⟩
theorem iv_start (m:Nat) (hm:3≤m∧m≤8):Iv m 0 0 (ldD (opnD (newD (dt0 m)))):=by
 refine opened (x:=newD (dt0 m)) rfl hm rfl ?_ ?_ ?_ rfl ⟨Int.le_refl _,Int.le_refl _⟩
 ·intro i j hi hj
  have:Wr.W (newD (dt0 m)).f i=0:=by
   show (List.replicate m 0).getD i 0=0;rw [List.getD_eq_getElem?_getD,List.getElem?_replicate];split <;> rfl
  rw [this];omega
 ·show (List.replicate m 0).length=m
  rw [List.length_replicate]
 ·show (List.replicate m 0).sum≤0
  simp
theorem odd_start (m:Nat):(ldD (opnD (newD (dt0 m)))).V.odd=false:=blank_odd (N:=m * 1024) rfl
end
end Go.Proofs.YtijegngfclkdaaaGreatDoor.Ev
namespace Go.Proofs.YtijegngfclkdaaaGreatDoor.Ev
open Go Go.RowKit Tw
def opV (k:Int):Value:=.agg #[.int .i64 k,.int .i64 0,.int .i64 0,.slice none 0 0,.int .u8 0,.int .u8 0,.int .i64 0,.int .u32 0,.int .i64 0,.int .i64 0,.bool false,.slice none 0 0,.int .i64 0,.int .i64 0,.slice none 0 0,.int .i64 0,.int .u32 0]
theorem cmd_save (w:World):Calls Tryz.prog 10 #[opV 1] w fun e w'=>∃ k,e=.returned (.tuple #[.int .i64 4112,.slice (some ⟨k,0,none⟩) 4 4])∧WdM w' w.heap.size k 115 97 118 101∧Below w.heap.size w w':=by
 unfold opV;have kc:=fun (w:World) (C:Array Value) (n c:Nat)=>Lib.run_convert_bytes_const (P:=Tryz.prog) w 25 5 C n c Tryz.underlying25 Tryz.underlying5
 have b1:=alloc_one w (.cells #[.int .i64 1,.int .i64 0,.int .i64 0,.slice none 0 0,.int .u8 0,.int .u8 0,.int .i64 0,.int .u32 0,.int .i64 0,.int .i64 0,.bool false,.slice none 0 0,.int .i64 0,.int .i64 0,.slice none 0 0,.int .i64 0,.int .u32 0] 41);have sz:(w.alloc (.cells #[.int .i64 1,.int .i64 0,.int .i64 0,.slice none 0 0,.int .u8 0,.int .u8 0,.int .i64 0,.int .u32 0,.int .i64 0,.int .i64 0,.bool false,.slice none 0 0,.int .i64 0,.int .i64 0,.slice none 0 0,.int .i64 0,.int .u32 0] 41)).heap.size=w.heap.size + 1:=Array.size_push _;have k2:=kc (w.alloc (.cells #[.int .i64 1,.int .i64 0,.int .i64 0,.slice none 0 0,.int .u8 0,.int .u8 0,.int .i64 0,.int .u32 0,.int .i64 0,.int .i64 0,.bool false,.slice none 0 0,.int .i64 0,.int .i64 0,.slice none 0 0,.int .i64 0,.int .u32 0] 41)) #[.int .u8 115,.int .u8 97,.int .u8 118,.int .u8 101] 4 4;rw [sz] at k2;clear kc;go_enter Tryz.func10,Tryz.ntmps10
 go_wp2_with fail
 go_ret2
 refine ⟨_,rfl,⟨Nat.le_succ _,?_⟩,?_⟩
 ·have h:=heap_alloc_new (w.alloc (.cells #[.int .i64 1,.int .i64 0,.int .i64 0,.slice none 0 0,.int .u8 0,.int .u8 0,.int .i64 0,.int .u32 0,.int .i64 0,.int .i64 0,.bool false,.slice none 0 0,.int .i64 0,.int .i64 0,.slice none 0 0,.int .i64 0,.int .u32 0] 41)) (.cells #[.int .u8 115,.int .u8 97,.int .u8 118,.int .u8 101] 5 (4,5))
  rw [sz] at h;exact h
 ·exact below_step b1 (alloc_one _ _) (Nat.le_refl _)
theorem cmd_load (w:World):Calls Tryz.prog 10 #[opV 2] w fun e w'=>∃ k,e=.returned (.tuple #[.int .i64 4113,.slice (some ⟨k,0,none⟩) 4 4])∧WdM w' w.heap.size k 108 111 97 100∧Below w.heap.size w w':=by
 unfold opV;have kc:=fun (w:World) (C:Array Value) (n c:Nat)=>Lib.run_convert_bytes_const (P:=Tryz.prog) w 25 5 C n c Tryz.underlying25 Tryz.underlying5
 have b1:=alloc_one w (.cells #[.int .i64 2,.int .i64 0,.int .i64 0,.slice none 0 0,.int .u8 0,.int .u8 0,.int .i64 0,.int .u32 0,.int .i64 0,.int .i64 0,.bool false,.slice none 0 0,.int .i64 0,.int .i64 0,.slice none 0 0,.int .i64 0,.int .u32 0] 41);have sz:(w.alloc (.cells #[.int .i64 2,.int .i64 0,.int .i64 0,.slice none 0 0,.int .u8 0,.int .u8 0,.int .i64 0,.int .u32 0,.int .i64 0,.int .i64 0,.bool false,.slice none 0 0,.int .i64 0,.int .i64 0,.slice none 0 0,.int .i64 0,.int .u32 0] 41)).heap.size=w.heap.size + 1:=Array.size_push _;have k2:=kc (w.alloc (.cells #[.int .i64 2,.int .i64 0,.int .i64 0,.slice none 0 0,.int .u8 0,.int .u8 0,.int .i64 0,.int .u32 0,.int .i64 0,.int .i64 0,.bool false,.slice none 0 0,.int .i64 0,.int .i64 0,.slice none 0 0,.int .i64 0,.int .u32 0] 41)) #[.int .u8 108,.int .u8 111,.int .u8 97,.int .u8 100] 4 4;rw [sz] at k2;clear kc;go_enter Tryz.func10,Tryz.ntmps10
 go_wp2_with fail
 go_ret2
 refine ⟨_,rfl,⟨Nat.le_succ _,?_⟩,?_⟩
 ·have h:=heap_alloc_new (w.alloc (.cells #[.int .i64 2,.int .i64 0,.int .i64 0,.slice none 0 0,.int .u8 0,.int .u8 0,.int .i64 0,.int .u32 0,.int .i64 0,.int .i64 0,.bool false,.slice none 0 0,.int .i64 0,.int .i64 0,.slice none 0 0,.int .i64 0,.int .u32 0] 41)) (.cells #[.int .u8 108,.int .u8 111,.int .u8 97,.int .u8 100] 5 (4,5))
  rw [sz] at h;exact h
 ·exact below_step b1 (alloc_one _ _) (Nat.le_refl _)
end Go.Proofs.YtijegngfclkdaaaGreatDoor.Ev
namespace Go.Proofs.YtijegngfclkdaaaGreatDoor.Ev
open Go Go.RowKit Tw
def en1:Ent.En:=⟨4112,1,saveB,7,4,false,false,0,0,4294967295,[1,0,0,0]⟩
def en2:Ent.En:=⟨4113,1,loadB,7,4,false,false,0,0,4294967295,[1,0,0,0]⟩
def en3:Ent.En:=⟨8192,0,[97],9,4,false,true,256,0,0,[]⟩
def en4:Ent.En:=⟨8193,0,[98],9,4,false,true,256,0,0,[]⟩
theorem esW_is:esW=[en1] ++ ([en2] ++ ([en3] ++ [en4])):=rfl
def enR (H:Nat):List Value:=enL en1 (some ⟨H,0,none⟩) 4 4 ++ (enL en2 (some ⟨H + 1,0,none⟩) 4 4 ++ (enL en3 none 0 0 ++ enL en4 none 0 0))
theorem word_RB {w:World} {k B:Nat} {a0 a1 a2 a3:UInt8} (hk:k < B) (h:w.heap[k]?=some (.cells #[bv a0,bv a1,bv a2,bv a3] 5)):RB w B (some ⟨k,0,none⟩) 4 4 [a0,a1,a2,a3]:=by
 refine ⟨rfl,Nat.le_refl _,by omega,(fun e=>by cases e),fun _=>⟨k,0,rfl,hk,fun i hi=>?_⟩⟩;rw [Nat.zero_add];simp only [World.cell?,h]
 match i,hi with
 | 0,_=>rfl
 | 1,_=>rfl
 | 2,_=>rfl
 | 3,_=>rfl
theorem entries_any {w:World} {H:Nat} (h1:w.heap[H]?=some (.cells #[.int .u8 1,.int .u8 0,.int .u8 0,.int .u8 0] 5)) (h2:w.heap[H + 1]?=some (.cells #[.int .u8 1,.int .u8 0,.int .u8 0,.int .u8 0] 5)) (h3:w.heap[H + 2]?=some (.cells (enR H).toArray 27)):REn w (H + 3) (H + 2) (some ⟨H + 2,0,none⟩) 4 4 esW:=by
 have r1:RB w (H + 2) (some ⟨H,0,none⟩) 4 4 [1,0,0,0]:=word_RB (by omega) h1;have r2:RB w (H + 2) (some ⟨H + 1,0,none⟩) 4 4 [1,0,0,0]:=word_RB (by omega) h2;refine ⟨enR H,⟨rfl,Nat.le_refl _,by omega,(fun e=>by cases e),fun _=>⟨H + 2,0,rfl,by omega,fun j u hu=>?_⟩⟩,?_⟩
 ·rw [Nat.zero_add]
  simp only [World.cell?,h3];rw [List.getElem?_toArray];simpa using hu
 ·rw [esW_is]
  have g1:EnC w (H + 2) en1 (enL en1 (some ⟨H,0,none⟩) 4 4):=⟨_,_,_,rfl,r1⟩;have g2:EnC w (H + 2) en2 (enL en2 (some ⟨H + 1,0,none⟩) 4 4):=⟨_,_,_,rfl,r2⟩;have g3:EnC w (H + 2) en3 (enL en3 none 0 0):=⟨_,_,_,rfl,RB.none_⟩;have g4:EnC w (H + 2) en4 (enL en4 none 0 0):=⟨_,_,_,rfl,RB.none_⟩;exact (Rows.one g1 rfl).append ((Rows.one g2 rfl).append ((Rows.one g3 rfl).append (Rows.one g4 rfl)))
def wEnt (w:World):World:=((w.alloc (.cells #[.int .u8 1,.int .u8 0,.int .u8 0,.int .u8 0] 5)).alloc (.cells #[.int .u8 1,.int .u8 0,.int .u8 0,.int .u8 0] 5)).alloc (.cells (enR w.heap.size).toArray 27)
theorem wEnt_at (w:World):(wEnt w).heap[w.heap.size]?=some (.cells #[.int .u8 1,.int .u8 0,.int .u8 0,.int .u8 0] 5)∧(wEnt w).heap[w.heap.size + 1]?=some (.cells #[.int .u8 1,.int .u8 0,.int .u8 0,.int .u8 0] 5)∧(wEnt w).heap[w.heap.size + 2]?=some (.cells (enR w.heap.size).toArray 27)∧(wEnt w).heap.size=w.heap.size + 3:=by
 generalize hE:enR w.heap.size=E;have e:(wEnt w).heap=((w.heap.push (.cells #[.int .u8 1,.int .u8 0,.int .u8 0,.int .u8 0] 5)).push (.cells #[.int .u8 1,.int .u8 0,.int .u8 0,.int .u8 0] 5)).push (.cells E.toArray 27):=by
  unfold wEnt;rw [hE];rfl
 rw [e];refine ⟨?_,?_,?_,?_⟩
 ·rw [Array.getElem?_push,if_neg (by simp only [Array.size_push]; omega),Array.getElem?_push,if_neg (by simp only [Array.size_push]; omega),Array.getElem?_push,if_pos rfl]
 ·rw [Array.getElem?_push,if_neg (by simp only [Array.size_push]; omega),Array.getElem?_push,if_pos (by simp only [Array.size_push])]
 ·rw [Array.getElem?_push,if_pos (by simp only [Array.size_push])]
 ·simp only [Array.size_push]
theorem wEnt_below {w0 w:World} (hb:Below w0.heap.size w0 w):Below w0.heap.size w0 (wEnt w):=by
 have hs:=hb.size;unfold wEnt;exact ((hb.alloc hs _).alloc (by simp; omega) _).alloc (by simp; omega) _
theorem new_here {w0 w1:World} (hg:ErrG w0) (h0:0 < w0.heap.size) (b1:Below w0.heap.size w0 w1) {gf c m c':Nat} {A A':Option Addr} (fm:FlM w1 w0.heap.size gf A (m * 1024) c A' m c' (fla0 m)) (hm:3≤m∧m≤8) :
  Calls Tryz.prog 6 #[.slice (some ⟨w1.heap.size + 1 + 1,0,none⟩) 4 4,.int .i64 5,.pointer (some ⟨gf,0,none⟩)] (wEnt w1) fun e w'=>∃ k,e=.returned (.tuple #[.pointer (some k),.int .i64 0])∧∃ x,Iv m 0 0 x∧Hs (idleR map0) w0 w' x (.pointer (some k)) (.pointer (some ⟨gf,0,none⟩)) w'.heap.size fun _ _=>False:=by
 obtain ⟨a1,a2,a3,a4⟩:=wEnt_at w1;have bE:=wEnt_below (Below.refl w1.heap.size w1);refine (ev_new (w0:=w0) (x:=dt0 m) (fm.below bE) hm rfl rfl (odd_start m) (wEnt_below b1) (hg.below (wEnt_below b1)) h0 (H:=w1.heap.size) (N:=w1.heap.size + 3) (w1:=wEnt w1) (B':=w1.heap.size + 2) (fun w2 hN hb=>entries_any ((hb _ (Nat.le_refl _) (by omega)).trans a1) ((hb _ (by omega) (by omega)).trans a2) ((hb _ (by omega) (by omega)).trans a3)) (fun b _ _=>rfl) (by omega) (by omega) b1.size).mono ?_;rintro e w' ⟨k,rfl,h⟩;exact ⟨k,rfl,_,iv_start m hm,h⟩
end Go.Proofs.YtijegngfclkdaaaGreatDoor.Ev
namespace Go.Proofs.YtijegngfclkdaaaGreatDoor.Ev
open Go Go.RowKit Tw
section
variable {rows:List (Nat×Ob)} {w0 w:World} {x:Dt} {bp fp:Value} {nb m k cc:Nat} {Ow:Nat→Obj→Prop}
def Rd (P:Dt→Prop) (m k cc:Nat) (w0 w:World) (bp fp:Value) (Ow:Nat→Obj→Prop):Prop:=∃ (x:Dt) (md:Ob),(md=map0∨md=map1)∧Iv m k cc x∧P x∧Hs (idleR md) w0 w x bp fp w.heap.size Ow
def Aft (m k cc:Nat) (was:Int) (w0 w:World) (bp fp:Value) (Ow:Nat→Obj→Prop):Prop:=∃ (x:Dt),(was≤x.f.ops∧x.f.ops≤was + 536)∧((Iv m (k + 1) cc x∧Hs (idleR map0) w0 w x bp fp w.heap.size Ow)∨(Wn m (k + 1) (cc + 1) x∧Hs offR w0 w x bp fp w.heap.size Ow))
def Pl (x:Dt):Prop:=(0≤x.f.ahead∧x.f.ahead≤1099511627776)∧0≤x.f.mask
def WdG (g:Int) (w:World) (nb kb:Nat):Prop:=(g=0∧WdM w nb kb 115 97 118 101)∨(g=1∧WdM w nb kb 108 111 97 100)
theorem cmd_any (g:Int) (hg:g=0∨g=1) (w:World):Calls Tryz.prog 10 #[opV (1 + g)] w fun e w'=>∃ kb,e=.returned (.tuple #[.int .i64 (4112 + g),.slice (some ⟨kb,0,none⟩) 4 4])∧WdG g w' w.heap.size kb∧Below w.heap.size w w':=by
 rcases hg with rfl | rfl
 ·refine (cmd_save w).mono ?_
  rintro e w' ⟨kb,rfl,h1,h2⟩;exact ⟨kb,rfl,.inl ⟨rfl,h1⟩,h2⟩
 ·refine (cmd_load w).mono ?_
  rintro e w' ⟨kb,rfl,h1,h2⟩;exact ⟨kb,rfl,.inr ⟨rfl,h1⟩,h2⟩
theorem hs_dic (h:Hs rows w0 w x bp fp nb Ow):DW x.D:=by
 obtain ⟨E,h⟩:=h;obtain ⟨x',col,K⟩:=h.rel.out;obtain rfl:x'=x:=by have:=K.ph; exact this
 obtain ⟨g,gd,lc,vc,la,vA,ys,vs,_,_,_,hD⟩:=K.dic (by decide);exact hD
theorem aft_of {kind d:Nat} {was:Int} (iv:Iv m k cc x) (hd:d≤522) (hw:was=x.f.ops) (h:SetP kind d w0 w x bp fp Ow):Aft m k cc was w0 w bp fp Ow:=by
 subst hw;obtain ⟨bs,l,hl,h⟩:=h;rcases h with ⟨h7,h⟩ | ⟨h7,h⟩
 ·obtain ⟨i1,i2,i3⟩:=iv.done (l:=l) (by omega:bs.length≤522) h7
  exact ⟨_,⟨i2,i3⟩,.inl ⟨i1,h⟩⟩
 ·obtain ⟨i1,i2,i3⟩:=iv.torn (l:=l) (by omega:bs.length≤522) h7
  exact ⟨_,⟨i2,i3⟩,.inr ⟨i1,h⟩⟩
theorem ev_cmd {md:Ob} (hmd:md=map0∨md=map1) (h:Hs (idleR md) w0 w x bp fp nb Ow) (iv:Iv m k cc x) (hk:k≤100) (hp:Pl x) {g:Int} {kb:Nat} (ht:WdG g w nb kb) :
  Calls Tryz.prog 12 #[bp,.int .i64 (4112 + g),.int .i64 1,.slice (some ⟨kb,0,none⟩) 4 4,.int .i64 0] w fun e w'=>(∃ y,e=.returned y)∧Aft m k cc x.f.ops w0 w' bp fp Ow:=by
 have hz:=(hs_dic h).stored.size;rcases ht with ⟨rfl,ht⟩ | ⟨rfl,ht⟩
 ·refine (ev_store hmd h (iv.cmd hk hp.1 hp.2 hz) ht).mono ?_
  rintro e w' ⟨h1,h2⟩;exact ⟨h1,aft_of iv hz rfl h2⟩
 ·refine (ev_rest hmd h (iv.cmd hk hp.1 hp.2 (by omega)) ht).mono ?_
  rintro e w' ⟨h1,h2⟩;exact ⟨h1,aft_of iv (by omega) rfl h2⟩
def AskP (w:World) (bp:Value) (on:Bool):Prop:=∃ ib ob il ol a,bp=.pointer (some ⟨ib,ob,none⟩)∧w.cell? ⟨ib,ob,none⟩=some (.pointer (some ⟨il,ol,none⟩))∧w.cell? ⟨il,ol + 15,none⟩=some (.pointer (some a))∧w.cell? ⟨il,ol + 18,none⟩=some (.bool on)
theorem ask_idle {md:Ob} (hmd:md=map0∨md=map1) (h:Hs (idleR md) w0 w x bp fp nb Ow):AskP w bp true:=by
 rcases hmd with rfl | rfl
 ·exact hs_cells h rfl rfl rfl rfl
 ·exact hs_cells h rfl rfl rfl rfl
theorem ask_off (h:Hs offR w0 w x bp fp nb Ow):AskP w bp false:=hs_cells h rfl rfl rfl rfl
theorem AskP.node {on:Bool} (h:AskP w bp on):∃ nv,(Calls Tryz.prog 13 #[bp] w fun e w'=>e=.returned nv∧w=w')∧Calls Tryz.prog 14 #[nv] w fun e w'=>e=.returned (.bool on)∧w=w':=by
 obtain ⟨ib,ob,il,ol,a,rfl,c1,c2,c3⟩:=h;exact ⟨_,bnode_any c1,nOn_any c2 c3⟩
theorem worn_is (iv:Iv m k cc x) {s:Nat} (hs:s < m):wornS x.f (s:Int)=(Wr.W x.f s:Int):=by
 unfold wornS;rw [if_pos (by rw [iv.wl]; omega)];rfl
theorem sum_take:∀ (l:List Nat) (s:Nat),s < l.length→(l.take (s + 1)).sum=(l.take s).sum + l.getD s 0
 | [],s,h=>by simp at h
 | a :: r,0,_=>by simp
 | a :: r,s + 1,h=>by
  have:=sum_take r s (by simpa using h);simp only [List.take_succ_cons,List.sum_cons,List.getD_cons_succ];omega
theorem sum_le:∀ (l:List Nat) (s:Nat),(l.take s).sum≤l.sum
 | [],s=>by simp
 | a :: r,0=>by simp
 | a :: r,s + 1=>by have:=sum_le r s; simp only [List.take_succ_cons,List.sum_cons]; omega
def SumP (m s:Nat) (x:Dt) (su lo hi:Nat):Prop:=su=(x.f.wear.take s).sum∧(∃ i,i < m∧lo=Wr.W x.f i)∧∃ j,j < m∧hi=Wr.W x.f j
theorem SumP.start (iv:Iv m k cc x):SumP m 0 x 0 (Wr.W x.f 0) (Wr.W x.f 0):=⟨by simp,⟨0,by have:=iv.n3; omega,rfl⟩,0,by have:=iv.n3; omega,rfl⟩
theorem SumP.step {s su lo hi:Nat} (iv:Iv m k cc x) (h:SumP m s x su lo hi) (hs:s < m):SumP m (s + 1) x (su + Wr.W x.f s) (min lo (Wr.W x.f s)) (max hi (Wr.W x.f s)):=by
 obtain ⟨h1,⟨i,hi1,hi2⟩,j,hj1,hj2⟩:=h;refine ⟨?_,?_,?_⟩
 ·rw [h1,sum_take _ _ (by rw [iv.wl]; exact hs)]
  rfl
 ·rcases Nat.le_total lo (Wr.W x.f s) with hl | hl
  ·exact ⟨i,hi1,by rw [Nat.min_eq_left hl,hi2]⟩
  ·exact ⟨s,hs,Nat.min_eq_right hl⟩
 ·rcases Nat.le_total hi (Wr.W x.f s) with hl | hl
  ·exact ⟨s,hs,Nat.max_eq_right hl⟩
  ·exact ⟨j,hj1,by rw [Nat.max_eq_left hl,hj2]⟩
theorem SumP.small {s su lo hi:Nat} (iv:Iv m k cc x) (h:SumP m s x su lo hi):su≤k∧lo≤k∧hi≤k∧hi≤lo + cc + 2:=by
 obtain ⟨h1,⟨i,hi1,hi2⟩,j,hj1,hj2⟩:=h;have a1:=sum_le x.f.wear s;have a2:=getD_le_sum x.f.wear i;have a3:=getD_le_sum x.f.wear j;have a4:=iv.sum;have a5:=iv.far j i hj1 hi1;have e1:Wr.W x.f i=x.f.wear.getD i 0:=rfl;have e2:Wr.W x.f j=x.f.wear.getD j 0:=rfl;omega
theorem worn_small (iv:Iv m k cc x) (s:Nat):Wr.W x.f s≤k:=by
 have a2:=getD_le_sum x.f.wear s;have a4:=iv.sum;have e1:Wr.W x.f s=x.f.wear.getD s 0:=rfl;omega
theorem Aft.ops {was:Int} (h:Aft m k cc was w0 w bp fp Ow):∃ z:Int,(was≤z∧z≤was + 536)∧Calls Tryz.prog 11 #[fp] w fun e w'=>e=.returned (.int .i64 z)∧w=w':=by
 obtain ⟨x,h1,h2⟩:=h;refine ⟨x.f.ops,h1,?_⟩;rcases h2 with ⟨_,h2⟩ | ⟨_,h2⟩
 ·exact hs_ops h2
 ·exact hs_ops h2
theorem Aft.on {was:Int} (h:Aft m k cc was w0 w bp fp Ow):∃ (on:Bool) (nv:Value),(Calls Tryz.prog 13 #[bp] w fun e w'=>e=.returned nv∧w=w')∧(Calls Tryz.prog 14 #[nv] w fun e w'=>e=.returned (.bool on)∧w=w')∧(on=true→Rd (fun _=>True) m (k + 1) cc w0 w bp fp Ow)∧(on=false→∃ x,Wn m (k + 1) (cc + 1) x∧Hs offR w0 w x bp fp w.heap.size Ow):=by
 obtain ⟨x,h1,h2⟩:=h;rcases h2 with ⟨i2,h2⟩ | ⟨i2,h2⟩
 ·obtain ⟨nv,n1,n2⟩:=(ask_idle (.inl rfl) h2).node
  exact ⟨true,nv,n1,n2,fun _=>⟨x,map0,.inl rfl,i2,trivial,h2⟩,(fun e=>by cases e)⟩
 ·obtain ⟨nv,n1,n2⟩:=(ask_off h2).node
  exact ⟨false,nv,n1,n2,(fun e=>by cases e),fun _=>⟨x,i2,h2⟩⟩
theorem hs_wornN (h:Hs rows w0 w x bp fp nb Ow) (iv:Iv m k cc x) {s:Nat} (hs:s < m):Calls Tryz.prog 15 #[fp,.int .i64 (s:Int)] w fun e w'=>e=.returned (.int .i64 (Wr.W x.f s:Int))∧w=w':=by
 rw [← worn_is iv hs];exact hs_worn h s
end
theorem byte97 {r:Nat} (h:r < 26):(97:Int) + (r:Int)=((UInt8.ofNat (97 + r)).toNat:Int):=by
 rw [UInt8.toNat_ofNat'];omega
theorem cnt_nat (n:Int) (m:Nat) (hm:0 < m:=by decide):∃ N:Nat,cnt n m=(N:Int)∧N≤m - 1:=by
 have h1:=Int.emod_nonneg n (show (m:Int)≠0 by omega);have h2:=Int.emod_lt_of_pos n (show (0:Int) < m by omega);exact ⟨(cnt n m).toNat,by unfold cnt; omega,by unfold cnt; omega⟩
theorem cnt_plan (n:Int):∃ K:Int,cnt n 600=K∧(0≤K∧K≤1099511627776):=by
 have h1:=Int.emod_nonneg n (show (600:Int)≠0 by decide);have h2:=Int.emod_lt_of_pos n (show (0:Int) < 600 by decide);exact ⟨_,rfl,by unfold cnt; omega,by unfold cnt; omega⟩
theorem tmod_nat (j m:Nat) (hm:0 < m):∃ r:Nat,Int.tmod (j:Int) (m:Int)=(r:Int)∧r < m :=
 ⟨j % m,by rw [Int.tmod_eq_emod_of_nonneg (by omega)]; rfl,Nat.mod_lt _ hm⟩
theorem cast_min (a b:Nat):min (a:Int) (b:Int)=((min a b:Nat):Int):=by omega
theorem cast_max (a b:Nat):max (a:Int) (b:Int)=((max a b:Nat):Int):=by omega
end Go.Proofs.YtijegngfclkdaaaGreatDoor.Ev
namespace Go.Proofs.YtijegngfclkdaaaGreatDoor.Ev
open Go Go.RowKit
def OpC (cs:List Value):Prop:=∃ (ki:Int) (a1 a2:Int) (A3:Option Addr) (n3 c3:Nat) (a4:Int) (g:Nat) (nn mm:Int) (a8 a9:Int) (a10:Bool) (A11:Option Addr) (n11 c11:Nat) (a12 a13:Int) (A14:Option Addr) (n14 c14:Nat) (a15 a16:Int),g < 256∧(-9223372036854775808≤nn∧nn≤9223372036854775807)∧0≤mm∧cs=[(.int .i64 ki),(.int .i64 a1),(.int .i64 a2),(.slice A3 n3 c3),(.int .u8 a4),(.int .u8 (g:Int)),(.int .i64 nn),(.int .u32 mm),(.int .i64 a8),(.int .i64 a9),(.bool a10),(.slice A11 n11 c11),(.int .i64 a12),(.int .i64 a13),(.slice A14 n14 c14),(.int .i64 a15),(.int .u32 a16)]
def ROp (w:World) (B:Nat) (A:Option Addr) (n c:Nat):Prop:=RS (fun (_:Unit) cs=>OpC cs) w B 17 A n c (List.replicate n ())
theorem ROp.at_ {w:World} {B n c:Nat} {A:Option Addr} (h:ROp w B A n c) {k:Nat} (hk:k < n):∃ (b o:Nat) (ki:Int) (a1 a2:Int) (A3:Option Addr) (n3 c3:Nat) (a4:Int) (g:Nat) (nn mm:Int) (a8 a9:Int) (a10:Bool) (A11:Option Addr) (n11 c11:Nat) (a12 a13:Int) (A14:Option Addr) (n14 c14:Nat) (a15 a16:Int),A=some ⟨b,o,none⟩∧b < B∧g < 256∧(-9223372036854775808≤nn∧nn≤9223372036854775807)∧0≤mm∧(w.cell? ⟨b,o + k * 17,none⟩=some (.int .i64 ki)∧w.cell? ⟨b,o + k * 17 + 1,none⟩=some (.int .i64 a1)∧w.cell? ⟨b,o + k * 17 + 2,none⟩=some (.int .i64 a2)∧w.cell? ⟨b,o + k * 17 + 3,none⟩=some (.slice A3 n3 c3)∧w.cell? ⟨b,o + k * 17 + 4,none⟩=some (.int .u8 a4)∧w.cell? ⟨b,o + k * 17 + 5,none⟩=some (.int .u8 (g:Int))∧w.cell? ⟨b,o + k * 17 + 6,none⟩=some (.int .i64 nn)∧w.cell? ⟨b,o + k * 17 + 7,none⟩=some (.int .u32 mm)∧w.cell? ⟨b,o + k * 17 + 8,none⟩=some (.int .i64 a8)∧w.cell? ⟨b,o + k * 17 + 9,none⟩=some (.int .i64 a9)∧w.cell? ⟨b,o + k * 17 + 10,none⟩=some (.bool a10)∧w.cell? ⟨b,o + k * 17 + 11,none⟩=some (.slice A11 n11 c11)∧w.cell? ⟨b,o + k * 17 + 12,none⟩=some (.int .i64 a12)∧w.cell? ⟨b,o + k * 17 + 13,none⟩=some (.int .i64 a13)∧w.cell? ⟨b,o + k * 17 + 14,none⟩=some (.slice A14 n14 c14)∧w.cell? ⟨b,o + k * 17 + 15,none⟩=some (.int .i64 a15)∧w.cell? ⟨b,o + k * 17 + 16,none⟩=some (.int .u32 a16)):=by
 obtain ⟨b,o,cs,hA,hb,hc,hcell⟩:=RS.at_ h (by decide) (show (List.replicate n ())[k]?=some () by rw [List.getElem?_replicate,if_pos hk]);obtain ⟨ki,a1,a2,A3,n3,c3,a4,g,nn,mm,a8,a9,a10,A11,n11,c11,a12,a13,A14,n14,c14,a15,a16,hg,hn,hm,rfl⟩:=hc;exact ⟨b,o,ki,a1,a2,A3,n3,c3,a4,g,nn,mm,a8,a9,a10,A11,n11,c11,a12,a13,A14,n14,c14,a15,a16,hA,hb,hg,hn,hm,hcell 0 _ (by decide) rfl,hcell 1 _ (by decide) rfl,hcell 2 _ (by decide) rfl,hcell 3 _ (by decide) rfl,hcell 4 _ (by decide) rfl,hcell 5 _ (by decide) rfl,hcell 6 _ (by decide) rfl,hcell 7 _ (by decide) rfl,hcell 8 _ (by decide) rfl,hcell 9 _ (by decide) rfl,hcell 10 _ (by decide) rfl,hcell 11 _ (by decide) rfl,hcell 12 _ (by decide) rfl,hcell 13 _ (by decide) rfl,hcell 14 _ (by decide) rfl,hcell 15 _ (by decide) rfl,hcell 16 _ (by decide) rfl⟩
theorem ROp.below {w w':World} {B n c:Nat} {A:Option Addr} (h:ROp w B A n c) (hb:Below B w w'):ROp w' B A n c:=RS.below h hb fun _ _ k=>k
end Go.Proofs.YtijegngfclkdaaaGreatDoor.Ev
namespace Go.Proofs.YtijegngfclkdaaaGreatDoor.Ev
open Go Go.ChangeShapes Go.WideShapes Go.ChangeAt Go.RowKit
section
variable {H:Type} {enc:TypeId×Value→H} {w:World} {spare:Nat→Bool} {held:Bool}
theorem top_u8 {z:Int} (h:(Lit.int .u8 z).wf=true):∃ g:Nat,z=(g:Int)∧g < 256:=by
 have hmin:IntKind.u8.min=0:=rfl;have hmax:IntKind.u8.max=255:=rfl;simp only [Lit.wf,Bool.and_eq_true,decide_eq_true_eq] at h;exact ⟨z.toNat,by omega,by omega⟩
theorem top_u32 {z:Int} (h:(Lit.int .u32 z).wf=true):0≤z:=by
 have hmin:IntKind.u32.min=0:=rfl;simp only [Lit.wf,Bool.and_eq_true,decide_eq_true_eq] at h;omega
theorem top_i64 {z:Int} (h:(Lit.int .i64 z).wf=true):-9223372036854775808≤z∧z≤9223372036854775807:=by
 have hmin:IntKind.i64.min=-9223372036854775808:=rfl;have hmax:IntKind.i64.max=9223372036854775807:=rfl;simp only [Lit.wf,Bool.and_eq_true,decide_eq_true_eq] at h;omega
theorem cells_op35 {fuel:Nat} {cs:List Value} {x:DataW H×List MemPlace} (h:DataW.trod enc Tryz.prog w 0 spare held fuel 41 cs=some x):∃ _:Unit,OpC cs:=by
 have h17:cs.length=17:=trod_len Tryz.underlying41 h (by kernel_rfl)
 match cs,h17 with
 | [v0,v1,v2,v3,v4,v5,v6,v7,v8,v9,v10,v11,v12,v13,v14,v15,v16],_ =>
  obtain ⟨_,_,t0⟩:=trod_one Tryz.underlying41 h 0 3 0 v0 rfl (by kernel_rfl) rfl;obtain ⟨_,_,tV⟩:=trod_part Tryz.underlying41 h 1 34 1 3 rfl (by kernel_rfl);obtain ⟨_,_,t4⟩:=trod_one Tryz.underlying41 h 2 5 4 v4 rfl (by kernel_rfl) rfl;obtain ⟨_,_,t5⟩:=trod_one Tryz.underlying41 h 3 5 5 v5 rfl (by kernel_rfl) rfl;obtain ⟨_,_,t6⟩:=trod_one Tryz.underlying41 h 4 3 6 v6 rfl (by kernel_rfl) rfl;obtain ⟨_,_,t7⟩:=trod_one Tryz.underlying41 h 5 35 7 v7 rfl (by kernel_rfl) rfl;obtain ⟨_,_,tE⟩:=trod_part Tryz.underlying41 h 6 39 8 9 rfl (by kernel_rfl);obtain ⟨_,_,t1⟩:=trod_one Tryz.underlying34 tV 0 3 0 v1 rfl (by kernel_rfl) rfl;obtain ⟨_,_,t2⟩:=trod_one Tryz.underlying34 tV 1 3 1 v2 rfl (by kernel_rfl) rfl;obtain ⟨_,_,t3⟩:=trod_one Tryz.underlying34 tV 2 25 2 v3 rfl (by kernel_rfl) rfl;obtain ⟨_,_,t8⟩:=trod_one Tryz.underlying39 tE 0 3 0 v8 rfl (by kernel_rfl) rfl;obtain ⟨_,_,tF⟩:=trod_part Tryz.underlying39 tE 1 37 1 3 rfl (by kernel_rfl);obtain ⟨_,_,tW⟩:=trod_part Tryz.underlying39 tE 2 34 4 3 rfl (by kernel_rfl);obtain ⟨_,_,t15⟩:=trod_one Tryz.underlying39 tE 3 3 7 v15 rfl (by kernel_rfl) rfl;obtain ⟨_,_,t16⟩:=trod_one Tryz.underlying39 tE 4 35 8 v16 rfl (by kernel_rfl) rfl;obtain ⟨_,_,t9⟩:=trod_one Tryz.underlying37 tF 0 3 0 v9 rfl (by kernel_rfl) rfl;obtain ⟨_,_,t10⟩:=trod_one Tryz.underlying37 tF 1 4 1 v10 rfl (by kernel_rfl) rfl;obtain ⟨_,_,t11⟩:=trod_one Tryz.underlying37 tF 2 25 2 v11 rfl (by kernel_rfl) rfl;obtain ⟨_,_,t12⟩:=trod_one Tryz.underlying34 tW 0 3 0 v12 rfl (by kernel_rfl) rfl;obtain ⟨_,_,t13⟩:=trod_one Tryz.underlying34 tW 1 3 1 v13 rfl (by kernel_rfl) rfl;obtain ⟨_,_,t14⟩:=trod_one Tryz.underlying34 tW 2 25 2 v14 rfl (by kernel_rfl) rfl;obtain ⟨z0,rfl,_⟩:=cell_int Tryz.underlying3 t0;obtain ⟨z1,rfl,_⟩:=cell_int Tryz.underlying3 t1;obtain ⟨z2,rfl,_⟩:=cell_int Tryz.underlying3 t2;obtain ⟨A3,n3,c3,rfl⟩:=cell_slice Tryz.underlying25 t3;obtain ⟨z4,rfl,_⟩:=cell_int Tryz.underlying5 t4;obtain ⟨z5,rfl,w5⟩:=cell_int Tryz.underlying5 t5;obtain ⟨z6,rfl,w6⟩:=cell_int Tryz.underlying3 t6;obtain ⟨z7,rfl,w7⟩:=cell_int Tryz.underlying35 t7;obtain ⟨z8,rfl,_⟩:=cell_int Tryz.underlying3 t8;obtain ⟨z9,rfl,_⟩:=cell_int Tryz.underlying3 t9;obtain ⟨z10,rfl⟩:=cell_bool Tryz.underlying4 t10;obtain ⟨A11,n11,c11,rfl⟩:=cell_slice Tryz.underlying25 t11;obtain ⟨z12,rfl,_⟩:=cell_int Tryz.underlying3 t12;obtain ⟨z13,rfl,_⟩:=cell_int Tryz.underlying3 t13;obtain ⟨A14,n14,c14,rfl⟩:=cell_slice Tryz.underlying25 t14;obtain ⟨z15,rfl,_⟩:=cell_int Tryz.underlying3 t15;obtain ⟨z16,rfl,_⟩:=cell_int Tryz.underlying35 t16;obtain ⟨g,rfl,hg⟩:=top_u8 w5;exact ⟨(),z0,z1,z2,A3,n3,c3,z4,g,z6,z7,z8,z9,z10,A11,n11,c11,z12,z13,A14,n14,c14,z15,z16,hg,top_i64 w6,top_u32 w7,rfl⟩
theorem open_ops {r:Reach} {b0:Nat} {v:Value} {d:DataW H} {p:List MemPlace} (hv:Value.okWide Tryz.prog w r b0 22 v) (h:DataW.Trod enc Tryz.prog w 0 spare held 22 v d p) :
  ∃ (A:Option Addr) (n c:Nat),v=.slice A n c∧ROp w w.heap.size A n c:=by
 obtain ⟨A,n,c,rfl⟩:=okWide_slice Tryz.underlying22 hv;obtain ⟨fuel,hf⟩:=h;have t:DataW.trod enc Tryz.prog w 0 spare held fuel 22 [.slice A n c]=some (d,p):=by simpa [Value.cells] using hf
 obtain ⟨fs,xs,h1,h2,h3⟩:=open_rows (fun (_:Unit) cs=>OpC cs) Tryz.underlying22 (size:=17) (by kernel_rfl) (by decide) (fun n cs y hy=>cells_op35 hy) t;have e:fs=List.replicate n ():=List.ext_getElem (by rw [h1,List.length_replicate]) fun i _ _=>rfl
 subst e;exact ⟨A,n,c,rfl,xs,h2,h3⟩
end
end Go.Proofs.YtijegngfclkdaaaGreatDoor.Ev
