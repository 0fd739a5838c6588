/-
  Piece 10 of the proof.
  Conditions: none.
-/
import Derived.Laws.OwnMore
import Derived.Laws.Rows
import Derived.ProofKit
import Derived.OpenShut
import Derived.ShutString
import Derived.ChangeOld
import Derived.Deep.Slices
import Derived.Test.YtijegngfclkdaaaGreatDoorQ09
set_option linter.unusedVariables false
set_option linter.unusedSimpArgs false
set_option maxHeartbeats 100000000
set_option maxRecDepth 100000
namespace Go.Proofs.YtijegngfclkdaaaGreatDoor
section
open Go.RowKit Go.Sort
section
variable {P:Program} {ops:Array Oper} {Q:Exit->Act->World->Prop} {md:Region.Mode} {S S':World->Prop} {t:Nat}
def wpAnyL (P:Program) (md:Region.Mode) (ops:Array Oper) (Q:Exit->Act->World->Prop) (t:Nat) (S:World->Prop):Nat->Array Bool->Act->World->Prop
 | 0,listed,a,w=>Region.ready md ops listed=[]/\Q .normal a w
 | fuel + 1,listed,a,w =>
  (Region.ready md ops listed=[]->Q .normal a w) /\
  ∀ i∈Region.ready md ops listed,wpOp P ops Q i (fun a' w'=>(i=t\/S w')/\wpAnyL P md ops Q t S fuel (listed.setIfInBounds i true) a' w') a w
theorem dN:∀ (fuel:Nat) (listed:Array Bool) (a:Act) (w:World),wpAnyL P md ops Q t S fuel listed a w->wpAny P md ops Q fuel listed a w
 | 0,_,_,_,h=>h
 | fuel + 1,_,_,_,h=>⟨h.1,fun i hi=>wpOp_mono (fun a' w' h'=>dN fuel _ a' w' h'.2) (h.2 i hi)⟩
theorem nS (hS:∀ w,S' w->S w):∀ (fuel:Nat) (listed:Array Bool) (a:Act) (w:World),wpAnyL P md ops Q t S' fuel listed a w->wpAnyL P md ops Q t S fuel listed a w
 | 0,_,_,_,h=>h
 | fuel + 1,_,_,_,h=>⟨h.1,fun i hi=>wpOp_mono (fun a' w' h'=>⟨h'.1.imp id (hS _),nS hS fuel _ a' w' h'.2⟩) (h.2 i hi)⟩
def waits (md:Region.Mode) (ops:Array Oper) (t i:Nat):Bool:=match ops[t]? with
 | some o=>o.after.any fun e=>Region.binds md e && e.on == i
 | none=>true
theorem wo {i:Nat} {o:Oper} (h:waits md ops t i=true) (ho:ops[t]?=some o):∃ e∈o.after,Region.binds md e=true/\e.on=i:=by
 unfold waits at h;rw [ho] at h;simp only [Array.any_eq_true',Bool.and_eq_true,beq_iff_eq] at h;obtain ⟨e,he,h1,h2⟩:=h;exact ⟨e,he,h1,h2⟩
theorem wpAnyL_first {i:Nat} {oi:Oper} {v:Value} (hi:ops[i]?=some oi) (hT:waits md ops t i=true) (hsel:∀ (j:Nat) (o:Oper) cs b,ops[j]?=some o->o.op≠.select cs b)
  (hQ:∀ c a w,Q (.panic c) (a.put oi.dst v) w->Q (.panic c) a w) :
  ∀ (fuel:Nat) (listed:Array Bool) (a:Act) (w:World),
   (∀ j oj,ops[j]?=some oj->j≠i->listed.getD j true=false->(∀ e∈oj.after,Region.binds md e=true->e.on≠i)->oi.apart ops oj=true) ->
   i∈Region.ready md ops listed->YieldsIf P ops S oi v a->S w ->
   wpAnyL P md ops Q t S fuel (listed.setIfInBounds i true) (a.put oi.dst v) w->wpAnyL P md ops Q t S (fuel + 1) listed a w:=by
 intro fuel
 induction fuel with
 | zero =>
  intro listed a w _ hr hy hS H;refine ⟨fun h=>(by rw [h] at hr; cases hr),fun j hj=>?_⟩
  by_cases hji:j=i
  ·subst hji; exact hy.wpOp hi hS ⟨.inr hS,H⟩
  ·have:=ready_mono hj hji
   rw [H.1] at this;cases this
 | succ fuel ih =>
  intro listed a w hfree hr hy hS H;refine ⟨fun h=>(by rw [h] at hr; cases hr),fun j hj=>?_⟩
  by_cases hji:j=i
  ·subst hji; exact hy.wpOp hi hS ⟨.inr hS,H⟩
  ·have h1:=H.2 j (ready_mono hj hji)
   obtain ⟨hjun,oj,hoj,hall⟩:=mem_ready.1 hj;have hnot:∀ e∈oj.after,Region.binds md e=true->e.on≠i:=fun e he hb heq=>by
    have h1:=hall e he hb;have h0:=(mem_ready.1 hr).1;rw [heq] at h1;rcases Nat.lt_or_ge i listed.size with h' | h'
    ·simp [h'] at h0 h1; rw [h0] at h1; cases h1
    ·simp [Array.getElem?_eq_none h'] at h1
   have hjt:j≠t:=fun e=>by
    subst e;obtain ⟨e,he,hb,heq⟩:=wo hT hoj;exact hnot e he hb heq
   have h2:=wpOp_putIf hoj (hfree j oj hoj hji hjun hnot) (fun cs b=>hsel i oi cs b hi) (fun cs b=>hsel j oj cs b hoj) hQ hy h1;have hfree':∀ k ok,ops[k]?=some ok->k≠i->(listed.setIfInBounds j true).getD k true=false ->
     (∀ e∈ok.after,Region.binds md e=true->e.on≠i)->oi.apart ops ok=true:=fun k ok hk hki hun hno=>by
    refine hfree k ok hk hki ?_ hno
    by_cases hjk:j=k
    ·subst hjk; exact hjun
    ·rw [getD_set_ne true hjk] at hun; exact hun
   refine wpOp_mono (fun a' w' h3=>?_) h2;have hS':S w':=h3.2.1.resolve_left hjt;refine ⟨.inr hS',ih (listed.setIfInBounds j true) a' w' hfree' (ready_mono hr (Ne.symm hji)) h3.1 hS' ?_⟩;rw [Array.setIfInBounds_comm _ _ hji];exact h3.2.2
def fe (md:Region.Mode) (l:List Oper) (t:Nat):Array Bool->List Nat->Bool
 | _,[]=>true
 | listed,i :: σ=>decide (i < l.length) && waits md l.toArray t i && (Region.ready md l.toArray listed).contains i && Region.free md l.toArray listed i && calm (nth l i) && fe md l t (listed.setIfInBounds i true) σ
theorem fJ {l:List Oper} (hsel:Region.noSelect l.toArray=true) (hQ:∀ c a d v w,Q (.panic c) (Act.put a d v) w->Q (.panic c) a w) (fuel:Nat) (w:World) (hS:S w) :
  ∀ (σ:List Nat) {n:Nat} (listed:Array Bool) (a:Act),n=σ.length + fuel->fe md l t listed σ=true ->
   wpQuiet P l.toArray S (fun a'=>wpAnyL P md l.toArray Q t S fuel (after listed σ) a' w) (aj l σ) a->wpAnyL P md l.toArray Q t S n listed a w
 | [],n,listed,a,hn,_,h=>by
  obtain rfl:n=fuel:=by simpa using hn
  exact h
 | i :: σ,n,listed,a,hn,hok,h=>by
  obtain rfl:n=(σ.length + fuel) + 1:=by simp at hn; omega
  simp only [fe,Bool.and_eq_true,decide_eq_true_eq] at hok;obtain ⟨⟨⟨⟨⟨hi,hT⟩,hr⟩,hf⟩,hc⟩,hrest⟩:=hok;have ho:l.toArray[i]?=some (nth l i):=by rw [List.getElem?_toArray]; exact fU l i hi
  simp only [aj,wpQuiet] at h;have step:∀ v,YieldsIf P l.toArray S (nth l i) v a->wpQuiet P l.toArray S (fun a'=>wpAnyL P md l.toArray Q t S fuel (after (listed.setIfInBounds i true) σ) a' w) (aj l σ) (a.put (nth l i).dst v) ->
    wpAnyL P md l.toArray Q t S ((σ.length + fuel) + 1) listed a w:=fun v hy hk =>
   wpAnyL_first ho hT (Region.noSelect_spec hsel) (fun c a w=>hQ c a _ _ w) (σ.length + fuel) listed a w (Region.free_spec ho hf) (by simpa using hr) hy hS
    (fJ hsel hQ fuel w hS σ _ _ rfl hrest hk)
  by_cases hw:Region.wanted (nth l i) (yielded l.toArray a.tmps)=true
  ·rw [if_pos hw] at h
   obtain ⟨v,hv,hk⟩:=iT hc hS h;exact step v (.inl ⟨hw,hv⟩) hk
  ·rw [if_neg hw] at h
   exact step undef (.inr ⟨by simpa using hw,rfl⟩) h
def gB (P:Program) (md:Region.Mode) (l:List Oper) (Q:Exit->Act->World->Prop) (t:Nat) (S:World->Prop) (fuel:Nat) (listed:Array Bool) (a:Act) (w:World):Prop :=
 ∃ S':World->Prop,S' w/\(∀ x,S' x->S x)/\wpAnyL P md l.toArray Q t S' fuel listed a w
theorem ag {l:List Oper} (i:Nat) {n:Nat} (fuel:Nat) {listed:Array Bool} {a:Act} {w:World} (hn:n=fuel + 1) (hr:Region.ready md l.toArray listed=[i]) (hi:i < l.length)
  (h:wpList P l.toArray (Qn (fun a' w'=>gB P md l Q t S fuel (listed.setIfInBounds i true) a' w') Q) [nth l i] a w):wpAnyL P md l.toArray Q t S n listed a w:=by
 subst hn;have ho:l.toArray[i]?=some (nth l i):=by rw [List.getElem?_toArray]; exact fU l i hi
 refine ⟨(fun h0=>by rw [hr] at h0; cases h0),fun j hj=>?_⟩;rw [hr] at hj;obtain rfl:j=i:=by simpa using hj
 have fin:∀ a' w',gB P md l Q t S fuel (listed.setIfInBounds j true) a' w'->(j=t\/S w')/\wpAnyL P md l.toArray Q t S fuel (listed.setIfInBounds j true) a' w':=fun a' w' ⟨S',h1,h2,h3⟩=>⟨.inr (h2 _ h1),nS h2 _ _ _ _ h3⟩
 refine wpOp_mono fin ?_;unfold wpOp;simp only [ho];simp only [wpList] at h
 by_cases hw:Region.wanted (nth l j) (yielded l.toArray a.tmps)=true
 ·rw [if_pos hw] at h ⊢
  rcases h with h | ⟨h1,a0,w0,h2⟩
  ·exact .inl h
  ·exact .inr ⟨h1,a0,w0,h2⟩
 ·rw [if_neg hw] at h ⊢
  exact h
theorem bL {l:List Oper} {n:Nat} (fuel:Nat) {listed:Array Bool} {a:Act} {w:World} (hn:n=fuel + 1) (hr:Region.ready md l.toArray listed=[t]) (hi:t < l.length) (hd:Region.ready md l.toArray (listed.setIfInBounds t true)=[])
  (h:wpList P l.toArray (Qn (fun a' w'=>Q .normal a' w') (NoPanic Q)) [nth l t] a w):wpAnyL P md l.toArray (NoPanic Q) t S n listed a w:=by
 subst hn;have ho:l.toArray[t]?=some (nth l t):=by rw [List.getElem?_toArray]; exact fU l t hi
 refine ⟨(fun h0=>by rw [hr] at h0; cases h0),fun j hj=>?_⟩;rw [hr] at hj;obtain rfl:j=t:=by simpa using hj
 have done:∀ a' w',Q .normal a' w'->(j=j\/S w')/\wpAnyL P md l.toArray (NoPanic Q) j S fuel (listed.setIfInBounds j true) a' w':=fun a' w' hq=>by
  refine ⟨.inl rfl,?_⟩;cases fuel with
  | zero=>exact ⟨hd,NoPanic.normal hq⟩
  | succ k=>exact ⟨fun _=>NoPanic.normal hq,by rw [hd]; simp⟩
 have hm:wpOp P l.toArray (NoPanic Q) j (fun a' w'=>Q .normal a' w') a w:=by
  unfold wpOp;simp only [ho];simp only [wpList] at h
  by_cases hw:Region.wanted (nth l j) (yielded l.toArray a.tmps)=true
  ·rw [if_pos hw] at h ⊢
   rcases h with h | ⟨h1,a0,w0,h2⟩
   ·exact .inl h
   ·exact .inr ⟨h1,a0,w0,h2⟩
  ·rw [if_neg hw] at h ⊢
   exact h
 exact wpOp_mono done hm
theorem gN {id:Nat} {l:List Oper} {a:Act} {w:World} (t:Nat) (hm:P.follows .mixedOrders=true)
  (h:wpAnyL P .any l.toArray (NoPanic Q) t (fun x=>∃ p:Regrown,x=grow (redrawn w p.d) p.os) l.length (Array.replicate l.length false) a w.drew):(Code.region id l.toArray true).wp P Q a w :=
 wp_region_noPanic (wp_region_any hm (by simpa using dN _ _ _ _ h))
theorem d_ {l:List Oper} (hsel:Region.noSelect l.toArray=true) (fuel:Nat) {w0 w:World} (hb:Below w0.heap.size w0 w) (σ:List Nat) {n:Nat} {listed:Array Bool} {a:Act} (hn:n=σ.length + fuel) (hok:fe md l t listed σ=true)
  (h:wpQuiet P l.toArray (fun x=>∃ p:Regrown,x=grow (redrawn w0 p.d) p.os) (fun a'=>wpAnyL P md l.toArray (NoPanic Q) t (fun x=>∃ p:Regrown,x=grow (redrawn w0 p.d) p.os) fuel (after listed σ) a' w) (aj l σ) a) :
  wpAnyL P md l.toArray (NoPanic Q) t (fun x=>∃ p:Regrown,x=grow (redrawn w0 p.d) p.os) n listed a w:=fJ hsel (fun _ _ _ _ _ h=>h) fuel w (eZ hb) σ listed a hn hok h
theorem dE {l:List Oper} {fuel:Nat} {listed:Array Bool} {a:Act} {w0 w:World} (hb:Below w0.heap.size w0 w)
  (h:wpAnyL P md l.toArray Q t (fun x=>∃ p:Regrown,x=grow (redrawn w p.d) p.os) fuel listed a w):Qn (fun a' w'=>gB P md l Q t (fun x=>∃ p:Regrown,x=grow (redrawn w0 p.d) p.os) fuel listed a' w') Q .normal a w :=
 ⟨_,eZ (Below.refl _ _),fun _ hx=>eZ (hb.trans ((vq hx).mono hb.size)),h⟩
theorem eR {l:List Oper} {fuel:Nat} {listed:Array Bool} {a:Act} {w0 w:World} (hb:Below w0.heap.size w0 w)
  (h:wpAnyL P md l.toArray Q t (fun x=>∃ p:Regrown,x=grow (redrawn w0 p.d) p.os) fuel listed a w):Qn (fun a' w'=>gB P md l Q t (fun x=>∃ p:Regrown,x=grow (redrawn w0 p.d) p.os) fuel listed a' w') Q .normal a w :=
 ⟨_,eZ hb,fun _ hx=>hx,h⟩
theorem bY {K:Exit->Act->World->Prop} {a:Act} {w:World} (h:Q .normal a w):Qn (fun a' w'=>Q .normal a' w') K .normal a w:=h
end
end
section
open Go.RowKit
def ao (w:World) (g:Nat) (t:TypeId) (cs:Array Value):Prop:=w.heap[g]?=some (.cells cs t (0,0))
section
variable {w w':World} {g:Nat} {t:TypeId} {cs:Array Value}
theorem ao.lt (h:ao w g t cs):g < w.heap.size:=by
 rcases Nat.lt_or_ge g w.heap.size with hlt | hge
 ·exact hlt
 ·unfold ao at h; rw [Array.getElem?_eq_none hge] at h; cases h
theorem ao.cell (h:ao w g t cs) (i:Nat):w.cell? ⟨g,i,none⟩=cs[i]?:=cell_of_row w g i cs t (0,0) h
theorem ao.frozen (h:ao w g t cs) (i:Nat):w.frozen? ⟨g,i,none⟩=false:=by
 unfold ao at h;simp [World.frozen?,h]
theorem ao.new (w:World) (t:TypeId) (cs:Array Value):ao (w.alloc (.cells cs t)) w.heap.size t cs:=heap_alloc_new w _
theorem ao.drew (h:ao w g t cs):ao w.drew g t cs:=h
theorem ao.drewN (h:ao w g t cs) (n:Nat):ao (w.drewN n) g t cs:=h
theorem ao.alloc (h:ao w g t cs) (o:Obj):ao (w.alloc o) g t cs:=(Below.heap_alloc w o g h.lt).trans h
theorem ao.aJ (h:ao w g t cs) (i:Nat) (u:Value):ao (w.setCell ⟨g,i,none⟩ u) g t (cs.setIfInBounds i u):=by
 unfold ao at h ⊢;simp [World.setCell,Array.getElem?_modify,h]
theorem ao.cR (h:ao w g t cs) {p:Addr} (hp:g≠p.block) (u:Value):ao (w.setCell p u) g t cs:=(Below.heap_setCell w p u g hp).trans h
theorem ao.below {B:Nat} (h:ao w g t cs) (hb:Below B w w') (hg:g < B):ao w' g t cs:=(hb.block g hg).trans h
theorem ao.later (h:ao w g t cs) (hb:Below w.heap.size w w'):ao w' g t cs:=h.below hb h.lt
theorem ao.grown {row:Option Nat} (h:ao w g t cs) (hb:w.grownBy w' row) (hg:some g≠row):ao w' g t cs:=(hb.block g h.lt hg).trans h
theorem ao.Xh {g':Nat} {t':TypeId} {cs':Array Value} (h:ao w g t cs) (h':ao w g' t' cs') (hne:t≠t'):g≠g':=by
 rintro rfl;unfold ao at h h';rw [h] at h';injection h' with h'
 injection h' with _ ht
 exact hne ht
theorem bE {base:Nat} {e:TypeId} {size n:Nat} {v:Value} {xs:List Value} (h:w.ownsRow base e size v n xs) (hg:ao w g t cs) (hne:e≠t):v.ownBlock≠some g:=by
 rcases h.2 with ⟨rfl,_⟩ | ⟨g',cap,cur,rfl,_,hh,_⟩
 ·simp [Value.ownBlock]
 ·intro he
  have:g'=g:=by simpa [Value.ownBlock] using he
  subst this;exact ao.Xh (t:=e) hh hg hne rfl
theorem ao.made {w1:World} (hb:Below (w.alloc (.cells cs t)).heap.size (w.alloc (.cells cs t)) w1):ao w1 w.heap.size t cs:=(ao.new w t cs).later hb
theorem ao.one {a:Value} (h:ao w g t #[a]):w.cell? ⟨g,0,none⟩=some a/\w.frozen? ⟨g,0,none⟩=false:=⟨h.cell 0,h.frozen 0⟩
theorem ao.two {a b:Value} (h:ao w g t #[a,b]):w.cell? ⟨g,0,none⟩=some a/\w.cell? ⟨g,1,none⟩=some b/\(w.frozen? ⟨g,0,none⟩=false/\w.frozen? ⟨g,1,none⟩=false):=⟨h.cell 0,h.cell 1,h.frozen 0,h.frozen 1⟩
theorem ao.three {a b c:Value} (h:ao w g t #[a,b,c]):w.cell? ⟨g,0,none⟩=some a/\w.cell? ⟨g,1,none⟩=some b/\w.cell? ⟨g,2,none⟩=some c/\(w.frozen? ⟨g,0,none⟩=false/\w.frozen? ⟨g,1,none⟩=false/\w.frozen? ⟨g,2,none⟩=false):=⟨h.cell 0,h.cell 1,h.cell 2,h.frozen 0,h.frozen 1,h.frozen 2⟩
theorem ao.DW {a b c:Value} (h:ao w g t #[a,b,c]):∀ (d:Nat) (os:Array Obj),(Sort.grow (redrawn w d) os).cell? ⟨g,0,none⟩=some a/\(Sort.grow (redrawn w d) os).cell? ⟨g,1,none⟩=some b/\(Sort.grow (redrawn w d) os).cell? ⟨g,2,none⟩=some c:=fun d os=>by
 have k:=h.later (below_regrown w d os);exact ⟨k.cell 0,k.cell 1,k.cell 2⟩
theorem ao.four {a b c d:Value} (h:ao w g t #[a,b,c,d]):(w.cell? ⟨g,0,none⟩=some a/\w.cell? ⟨g,1,none⟩=some b/\w.cell? ⟨g,2,none⟩=some c/\w.cell? ⟨g,3,none⟩=some d)/\(w.frozen? ⟨g,0,none⟩=false/\w.frozen? ⟨g,1,none⟩=false/\w.frozen? ⟨g,2,none⟩=false/\w.frozen? ⟨g,3,none⟩=false):=⟨⟨h.cell 0,h.cell 1,h.cell 2,h.cell 3⟩,h.frozen 0,h.frozen 1,h.frozen 2,h.frozen 3⟩
theorem ao.zm {a b c d:Value} (h:ao w g t #[a,b,c,d]):∀ (k:Nat) (os:Array Obj),(Sort.grow (redrawn w k) os).cell? ⟨g,0,none⟩=some a/\(Sort.grow (redrawn w k) os).cell? ⟨g,1,none⟩=some b/\(Sort.grow (redrawn w k) os).cell? ⟨g,2,none⟩=some c/\(Sort.grow (redrawn w k) os).cell? ⟨g,3,none⟩=some d:=fun k os=>by
 have h:=h.later (below_regrown w k os);exact ⟨h.cell 0,h.cell 1,h.cell 2,h.cell 3⟩
theorem ao.eG {a b c:Value} (h:ao w g t #[a,b,c]) (a' b' c':Value):ao (((w.setCell ⟨g,0,none⟩ a').setCell ⟨g,1,none⟩ b').setCell ⟨g,2,none⟩ c') g t #[a',b',c']:=((h.aJ 0 a').aJ 1 b').aJ 2 c'
theorem ao.Ow {a b c d:Value} (h:ao w g t #[a,b,c,d]) (a' b' c' d':Value):ao ((((w.setCell ⟨g,0,none⟩ a').setCell ⟨g,1,none⟩ b').setCell ⟨g,2,none⟩ c').setCell ⟨g,3,none⟩ d') g t #[a',b',c',d']:=(((h.aJ 0 a').aJ 1 b').aJ 2 c').aJ 3 d'
theorem bM {B:Nat} (h:Below B w w') (hg:B<=g) (i j k:Nat) (a b c:Value):Below B w (((w'.setCell ⟨g,i,none⟩ a).setCell ⟨g,j,none⟩ b).setCell ⟨g,k,none⟩ c):=((h.setCell (p:=⟨g,i,none⟩) hg a).setCell (p:=⟨g,j,none⟩) hg b).setCell (p:=⟨g,k,none⟩) hg c
theorem OB.cR {base:Nat} {A:Option Addr} {n c:Nat} {l:List UInt8} (h:OB w base A n c l) (hg:g < base) (i:Nat) (u:Value):OB (w.setCell ⟨g,i,none⟩ u) base A n c l:=by
 refine h.kept (row:=some g) (eQ (World.grownBy.refl _ _) (.inl rfl) u) ?_;cases e:(Value.slice A n c).ownBlock with
 | none=>exact .inl rfl
 | some k =>
  right
  intro he;have:=(h.lt k e).1;injection he with he
  omega
theorem OV.cR {base e size:Nat} {A:Option Addr} {n c:Nat} {l:List Value} (h:OV w base e size A n c l) (hg:g < base) (i:Nat) (u:Value):OV (w.setCell ⟨g,i,none⟩ u) base e size A n c l:=by
 refine h.kept (row:=some g) (eQ (World.grownBy.refl _ _) (.inl rfl) u) ?_;cases e:(Value.slice A n c).ownBlock with
 | none=>exact .inl rfl
 | some k =>
  right
  intro he;have:=(h.lt k e).1;injection he with he
  omega
theorem OB.wj {base:Nat} {A:Option Addr} {n c:Nat} {l:List UInt8} (h:OB w base A n c l) (hg:g < base) (i j k:Nat) (a b d:Value):OB (((w.setCell ⟨g,i,none⟩ a).setCell ⟨g,j,none⟩ b).setCell ⟨g,k,none⟩ d) base A n c l:=((h.cR hg i a).cR hg j b).cR hg k d
end
open Go.ChangeShapes Go.WideShapes Go.ChangeAt
section
variable {H:Type} {enc:TypeId×Value->H} {P:Program} {w:World} {spare:Nat->Bool} {held:Bool}
theorem o_ {t e:TypeId} {A:Option Addr} {n c:Nat} {x:DataW H×List MemPlace} {fuel:Nat} (ht:P.underlying t=some (.slice e)) (he:P.underlying e=some (.int .u8)) (hc:P.cellsOf e=1)
  (h:DataW.trod enc P w 0 spare held fuel t [.slice A n c]=some x):∃ l,RB w w.heap.size A n c l:=by
 rcases open_ints ht he hc h with ⟨hcs,_⟩ | ⟨a,len,cap,zs,hcs,_,hl,hm,hz,_,hcell,hwz⟩
 ·simp at hcs
  obtain ⟨rfl,rfl,rfl⟩:=hcs;exact ⟨[],RB.none_⟩
 ·simp at hcs
  obtain ⟨rfl,rfl,rfl⟩:=hcs;have hzl:n<=zs.length:=by rw [hz]; split <;> omega
  refine ⟨(zs.take n).map fun z=>UInt8.ofNat z.toNat,by simp; omega,hl,by simpa [maxLen] using hm,(fun e=>by cases e),fun hn=>?_⟩;obtain ⟨b,off,spot⟩:=a;have h0:=hcell 0 (by omega);have hspot:spot=none:=by simpa [Addr.add] using World.cell?_spot h0
  subst hspot;refine ⟨b,off,rfl,?_,fun i hi=>?_⟩
  ·have:=World.block_lt_of_cell? w _ h0
   simpa [Addr.add_lit] using this
  ·have h1:=hcell i (by omega)
   rw [Addr.add_lit] at h1;rw [h1];have hil:i < zs.length:=by omega
   have hw:=bounds_u8 (hwz zs[i] (List.getElem_mem hil));have e1:zs.getD i 0=zs[i]:=by simp [List.getD,hil]
   have e2:((zs.take n).map fun z=>UInt8.ofNat z.toNat).getD i 0=UInt8.ofNat zs[i].toNat:=by
    simp [List.getD,hil,hi]
   rw [e1,e2,UInt8.toNat_ofNat']
   congr 2
   omega
end
def Rows {α:Type} (R:α->List Value->Prop) (size:Nat) (fs:List α) (xs:List Value):Prop :=
 xs.length=fs.length * size/\∀ i f,fs[i]?=some f->R f ((xs.drop (i * size)).take size)
section
variable {α:Type} {R R':α->List Value->Prop} {size:Nat} {fs gs:List α} {xs ys:List Value}
theorem Rows.nil:Rows R size [] []:=⟨by simp,fun i f h=>by simp at h⟩
theorem Rows.imp (h:Rows R size fs xs) (hi:∀ f cs,R f cs->R' f cs):Rows R' size fs xs:=⟨h.1,fun i f hf=>hi _ _ (h.2 i f hf)⟩
theorem Rows.append (h:Rows R size fs xs) (h':Rows R size gs ys):Rows R size (fs ++ gs) (xs ++ ys):=by
 refine ⟨by rw [List.length_append,List.length_append,h.1,h'.1,Nat.add_mul],fun i f hf=>?_⟩;rcases Nat.lt_or_ge i fs.length with hi | hi
 ·rw [List.getElem?_append_left hi] at hf
  have h1:=h.2 i f hf;have hle:(i + 1) * size<=xs.length:=by rw [h.1]; exact Nat.mul_le_mul_right _ hi
  rw [Nat.add_mul,Nat.one_mul] at hle;rw [List.drop_append_of_le_length (by omega),List.take_append_of_le_length (by rw [List.length_drop]; omega)];exact h1
 ·rw [List.getElem?_append_right hi] at hf
  have h1:=h'.2 _ f hf;have e:i * size=xs.length + (i - fs.length) * size:=by rw [h.1,Nat.sub_mul]; have:=Nat.mul_le_mul_right size hi; omega
  rw [e,List.drop_append,List.drop_of_length_le (by omega),List.nil_append,Nat.add_sub_cancel_left];exact h1
theorem Rows.one {f:α} {cs:List Value} (h:R f cs) (hl:cs.length=size):Rows R size [f] cs:=by
 refine ⟨by simpa using hl,fun i g hg=>?_⟩;cases i with
 | zero=>simp at hg; subst hg; simpa [List.take_of_length_le (Nat.le_of_eq hl)] using h
 | succ i=>simp at hg
theorem Rows.take (h:Rows R size fs xs) (k:Nat) (hk:k<=fs.length):Rows R size (fs.take k) (xs.take (k * size)):=by
 have hle:=Nat.mul_le_mul_right size hk;refine ⟨by rw [List.length_take,List.length_take,h.1,Nat.min_eq_left hle,Nat.min_eq_left hk],fun i f hf=>?_⟩;rw [List.getElem?_take] at hf;split at hf
 ·rename_i hi
  have h1:=h.2 i f hf;have h2:(i + 1) * size<=k * size:=Nat.mul_le_mul_right _ hi;rw [Nat.add_mul,Nat.one_mul] at h2;rw [List.drop_take,List.take_take,Nat.min_eq_left (by omega)];exact h1
 ·cases hf
theorem Rows.drop (h:Rows R size fs xs) (k:Nat):Rows R size (fs.drop k) (xs.drop (k * size)):=by
 refine ⟨by rw [List.length_drop,List.length_drop,h.1,Nat.sub_mul],fun i f hf=>?_⟩;rw [List.getElem?_drop] at hf;have h1:=h.2 _ f hf;rw [List.drop_drop,<- Nat.add_mul];exact h1
theorem Rows.len (h:Rows R size fs xs):xs.length=fs.length * size:=h.1
end
section
variable {H:Type} {enc:TypeId×Value->H} {P:Program} {w:World} {spare:Nat->Bool} {held:Bool} {base:Nat}
theorem nT {t:TypeId} {fs:Array Field} {fuel:Nat} {cs:List Value} {x:DataW H×List MemPlace} (ht:P.underlying t=some (.struct fs)) (h:DataW.trod enc P w base spare held fuel t cs=some x) :
  cs.length=P.cellsOf t/\∀ (i:Nat) (f:Field),fs[i]?=some f->∃ n y,DataW.trod enc P w base spare held n f.type ((cs.drop f.offset).take (P.cellsOf f.type))=some y:=by
 obtain ⟨ys,n,_,_,hlen,hyl,hf⟩:=DataW.trod_struct ht h;refine ⟨hlen,fun i f hi=>?_⟩;have h1:=hf i f hi;have hi':i < ys.length:=by rw [hyl]; exact (Array.getElem?_eq_some_iff.1 hi).1
 rw [List.getElem?_eq_getElem hi'] at h1;exact ⟨n,_,h1⟩
theorem pg {t:TypeId} {fs:Array Field} {fuel:Nat} {cs:List Value} {x:DataW H×List MemPlace} {m:Nat} (ht:P.underlying t=some (.struct fs)) (h:DataW.trod enc P w base spare held fuel t cs=some x) (hm:P.cellsOf t=m):cs.length=m:=(nT ht h).1.trans hm
theorem gW {t:TypeId} {fs:Array Field} {fuel:Nat} {cs:List Value} {x:DataW H×List MemPlace} (ht:P.underlying t=some (.struct fs)) (h:DataW.trod enc P w base spare held fuel t cs=some x)
  (i ft off m:Nat) (hi:(fs[i]?).map (fun f=>(f.type,f.offset))=some (ft,off)) (hc:P.cellsOf ft=m):∃ n y,DataW.trod enc P w base spare held n ft ((cs.drop off).take m)=some y:=by
 cases hf:fs[i]? with
 | none=>rw [hf] at hi; simp at hi
 | some f =>
  rw [hf] at hi;simp only [Option.map_some,Option.some.injEq,Prod.mk.injEq] at hi;obtain ⟨h1,h2⟩:=hi;obtain ⟨n,y,h3⟩:=(nT ht h).2 i f hf;rw [h1,h2,hc] at h3;exact ⟨n,y,h3⟩
theorem aS {t:TypeId} {fs:Array Field} {fuel:Nat} {cs:List Value} {x:DataW H×List MemPlace} (ht:P.underlying t=some (.struct fs)) (h:DataW.trod enc P w base spare held fuel t cs=some x)
  (i ft off:Nat) (v:Value) (hi:(fs[i]?).map (fun f=>(f.type,f.offset))=some (ft,off)) (hc:P.cellsOf ft=1) (hv:cs[off]?=some v):∃ n y,DataW.trod enc P w base spare held n ft [v]=some y:=by
 obtain ⟨n,y,h1⟩:=gW ht h i ft off 1 hi hc;have hl:off < cs.length:=(List.getElem?_eq_some_iff.1 hv).1;have e:(cs.drop off).take 1=[v]:=by
  rw [List.drop_eq_getElem_cons hl,List.take_succ_cons,List.take_zero];rw [List.getElem?_eq_getElem hl] at hv;injection hv with hv
  rw [hv]
 rw [e] at h1;exact ⟨n,y,h1⟩
theorem bC {t:TypeId} {k:IntKind} {fuel:Nat} {v:Value} {x:DataW H×List MemPlace} (ht:P.underlying t=some (.int k)) (h:DataW.trod enc P w base spare held fuel t [v]=some x):∃ z,v=.int k z/\(Lit.int k z).wf=true:=by
 obtain ⟨z,e,_,hw⟩:=DataW.trod_int ht h;injection e with e
 exact ⟨z,e,hw⟩
theorem lZ {t:TypeId} {fuel:Nat} {v:Value} {x:DataW H×List MemPlace} (ht:P.underlying t=some .bool) (h:DataW.trod enc P w base spare held fuel t [v]=some x):∃ b,v=.bool b:=by
 obtain ⟨b,e,_⟩:=DataW.trod_bool ht h;injection e with e
 exact ⟨b,e⟩
theorem uS {t:TypeId} {fuel:Nat} {v:Value} {x:DataW H×List MemPlace} (ht:P.underlying t=some .string) (h:DataW.trod enc P w base spare held fuel t [v]=some x):∃ s:ByteArray,v=.string s/\s.size<=maxLen:=by
 obtain ⟨s,e,_,hw⟩:=DataW.trod_string ht h;injection e with e
 exact ⟨s,e,hw⟩
theorem iI {t e:TypeId} {fuel:Nat} {v:Value} {x:DataW H×List MemPlace} (ht:P.underlying t=some (.slice e)) (h:DataW.trod enc P w base spare held fuel t [v]=some x):∃ A n c,v=.slice A n c:=by
 rcases Deep.open_slice ht h with ⟨h0,_⟩ | ⟨a,len,cap,m,n,D,Pl,hcs,_⟩
 ·injection h0 with h0; exact ⟨_,_,_,h0⟩
 ·injection hcs with h0; exact ⟨_,_,_,h0⟩
theorem ka {t e:TypeId} {fuel:Nat} {v:Value} {x:DataW H×List MemPlace} (ht:P.underlying t=some (.slice e)) (he:P.underlying e=some (.int .u8)) (hc:P.cellsOf e=1)
  (h:DataW.trod enc P w 0 spare held fuel t [v]=some x):∃ A n c l,v=.slice A n c/\RB w w.heap.size A n c l:=by
 obtain ⟨A,n,c,rfl⟩:=iI ht h;obtain ⟨l,hl⟩:=o_ ht he hc h;exact ⟨A,n,c,l,rfl,hl⟩
theorem ml {α:Type} (R:α->List Value->Prop) {t e:TypeId} {size:Nat} (ht:P.underlying t=some (.slice e)) (hC:P.cellsOf e=size) (hs:0 < size)
  (hR:∀ n cs y,DataW.trod enc P w base spare held n e cs=some y->∃ f,R f cs) {A:Option Addr} {n c fuel:Nat} {x:DataW H×List MemPlace} (h:DataW.trod enc P w base spare held fuel t [.slice A n c]=some x) :
  ∃ fs xs,fs.length=n/\RV w w.heap.size size A n c xs/\Rows R size fs xs:=by
 rcases Deep.open_slice ht h with ⟨h0,_⟩ | ⟨a,len,cap,m,nn,D,Pl,hcs,hb,hl,hcap,hm,_,hi⟩
 ·injection h0 with h0
  injection h0 with h1 h2 h3
  subst h1 h2 h3;exact ⟨[],[],rfl,RV.none_,Rows.nil⟩
 ·injection hcs with h0
  injection h0 with h1 h2 h3
  subst h1 h2 h3;have hnm:n<=m:=by rw [hm]; split <;> omega
  have build:∀ k,k<=n->∃ fs xs,fs.length=k/\Rows R size fs xs/\∀ j u,xs[j]?=some u->w.cell? (a.add j)=some u:=by
   intro k
   induction k with
   | zero=>exact fun _=>⟨[],[],rfl,Rows.nil,fun j u hj=>by simp at hj⟩
   | succ k ih =>
    intro hk;obtain ⟨fs,xs,h1,h2,h3⟩:=ih (by omega);obtain ⟨cs,hc,ht'⟩:=hi k (by omega);obtain ⟨f,hf⟩:=hR _ _ _ ht';rw [hC] at hc;obtain ⟨_,hcl,hat⟩:=World.cells?_some hc;refine ⟨fs ++ [f],xs ++ cs,by simp [h1],h2.append (Rows.one hf hcl),fun j u hj=>?_⟩;rcases Nat.lt_or_ge j xs.length with hlt | hge
    ·rw [List.getElem?_append_left hlt] at hj
     exact h3 j u hj
    ·rw [List.getElem?_append_right hge] at hj
     have hj':j - xs.length < size:=by have:=(List.getElem?_eq_some_iff.1 hj).1; omega
     have h4:=hat (j - xs.length) hj';rw [Deep.add_add,hj] at h4;rw [<- h4,h2.1,h1]
     congr 2
     rw [h2.1,h1] at hge;omega
  obtain ⟨fs,xs,h1,h2,h3⟩:=build n lq;refine ⟨fs,xs,h1,⟨by rw [h2.1,h1],hl,by simpa [maxLen] using hcap,(fun e=>by cases e),fun hn=>?_⟩,h2⟩;have hx0:0 < xs.length:=by rw [h2.1,h1]; exact Nat.mul_pos hn hs
  have h0:=h3 0 _ (List.getElem?_eq_getElem hx0);obtain ⟨b,off,spot⟩:=a;have hspot:spot=none:=by simpa [Addr.add] using World.cell?_spot h0
  subst hspot;refine ⟨b,off,rfl,?_,fun j u hu=>?_⟩
  ·have:=World.block_lt_of_cell? w _ h0
   simpa [Addr.add_lit] using this
  ·have:=h3 j u hu
   rwa [Addr.add_lit] at this
end
end
section
open Go.RowKit
structure Mv (F:Nat->Prop) (w w':World):Prop where
 os:w'.os=w.os
 tape:w'.tape=w.tape
 output:w'.output=w.output
 size:w.heap.size<=w'.heap.size
 block:∀ b,b < w.heap.size->¬ F b->w'.heap[b]?=w.heap[b]?
section
variable {F G:Nat->Prop} {w w' w1 w2:World}
theorem Mv.refl (F:Nat->Prop) (w:World):Mv F w w:=⟨rfl,rfl,rfl,Nat.le_refl _,fun _ _ _=>rfl⟩
theorem Mv.trans (h:Mv F w w1) (k:Mv G w1 w2) (hG:∀ b,b < w.heap.size->G b->F b):Mv F w w2 :=
 ⟨k.os.trans h.os,k.tape.trans h.tape,k.output.trans h.output,Nat.le_trans h.size k.size,fun b hb hF=>(k.block b (Nat.lt_of_lt_of_le hb h.size) fun hg=>hF (hG b hb hg)).trans (h.block b hb hF)⟩
theorem Mv.mono (h:Mv F w w') (hi:∀ b,b < w.heap.size->F b->G b):Mv G w w':=⟨h.os,h.tape,h.output,h.size,fun b hb hG=>h.block b hb fun hF=>hG (hi b hb hF)⟩
theorem Mv.kZ {B:Nat} (h:Below B w w'):Mv (fun b=>B<=b) w w':=⟨h.os,h.tape,h.output,h.size,fun b _ hF=>h.block b (Nat.lt_of_not_le hF)⟩
theorem Mv.aq (h:Below w.heap.size w w') (F:Nat->Prop):Mv F w w':=⟨h.os,h.tape,h.output,h.size,fun b hb _=>h.block b hb⟩
theorem Mv.fk {row:Option Nat} (h:w.grownBy w' row):Mv (fun b=>some b=row) w w':=⟨h.os,h.tape,h.output,h.size,fun b hb hF=>h.block b hb hF⟩
theorem Mv.below {B:Nat} (h:Mv F w w') (hB:B<=w.heap.size) (hF:∀ b,F b->B<=b):Below B w w':=⟨h.os,h.tape,h.output,h.size,fun b hb=>h.block b (Nat.lt_of_lt_of_le hb hB) fun hf=>by have:=hF b hf; omega⟩
theorem Mv.setCell (w:World) (p:Addr) (u:Value):Mv (fun b=>b=p.block) w (w.setCell p u):=⟨rfl,rfl,rfl,by simp [World.setCell],fun b _ hF=>Below.heap_setCell w p u b hF⟩
theorem Mv.alloc (w:World) (o:Obj) (F:Nat->Prop):Mv F w (w.alloc o):=Mv.aq ((Below.refl _ _).alloc lq o) F
theorem Mv.drew (h:Mv F w w'):Mv F w w'.drew:=⟨h.os,h.tape,h.output,h.size,h.block⟩
theorem ao.mv {g:Nat} {t:TypeId} {cs:Array Value} (h:ao w g t cs) (hm:Mv F w w') (hg:¬ F g):ao w' g t cs:=(hm.block g h.lt hg).trans h
end
structure Wd (G:Nat->Prop) (w0:World) where
 val:World
 ok:Mv G w0 val
instance U8 (G:Nat->Prop) (w0:World):Nonempty (Wd G w0):=⟨⟨w0,Mv.refl _ _⟩⟩
section
variable {P:Program} {Q:Exit->Act->World->Prop} {md:Region.Mode} {t:Nat} {G:Nat->Prop}
theorem cF {id:Nat} {l:List Oper} {a:Act} {w:World} (t:Nat) (G:Nat->Prop) (hm:P.follows .mixedOrders=true)
  (h:wpAnyL P .any l.toArray (NoPanic Q) t (fun x=>∃ v:Wd G w,x=v.val) l.length (Array.replicate l.length false) a w.drew):(Code.region id l.toArray true).wp P Q a w :=
 wp_region_noPanic (wp_region_any hm (by simpa using dN _ _ _ _ h))
theorem cy {l:List Oper} (hsel:Region.noSelect l.toArray=true) (fuel:Nat) {w0 w:World} (hb:Mv G w0 w) (σ:List Nat) {n:Nat} {listed:Array Bool} {a:Act} (hn:n=σ.length + fuel) (hok:fe md l t listed σ=true)
  (h:wpQuiet P l.toArray (fun x=>∃ v:Wd G w0,x=v.val) (fun a'=>wpAnyL P md l.toArray (NoPanic Q) t (fun x=>∃ v:Wd G w0,x=v.val) fuel (after listed σ) a' w) (aj l σ) a) :
  wpAnyL P md l.toArray (NoPanic Q) t (fun x=>∃ v:Wd G w0,x=v.val) n listed a w:=fJ hsel (fun _ _ _ _ _ h=>h) fuel w ⟨⟨w,hb⟩,rfl⟩ σ listed a hn hok h
theorem aB {l:List Oper} {fuel:Nat} {listed:Array Bool} {a:Act} {w0 w:World} (hb:Mv G w0 w)
  (h:wpAnyL P md l.toArray Q t (fun x=>∃ v:Wd G w0,x=v.val) fuel listed a w):Qn (fun a' w'=>gB P md l Q t (fun x=>∃ v:Wd G w0,x=v.val) fuel listed a' w') Q .normal a w :=
 ⟨_,⟨⟨w,hb⟩,rfl⟩,fun _ hx=>hx,h⟩
theorem au {S:World->Prop} {l:List Oper} {listed:Array Bool} {a:Act} {w:World} (hr:Region.ready md l.toArray listed=[]) (h:Q .normal a w):wpAnyL P md l.toArray (NoPanic Q) t S 0 listed a w:=⟨hr,NoPanic.normal h⟩
theorem ao.uU {w0:World} {g:Nat} {ty:TypeId} {a b c:Value} (h:ao w0 g ty #[a,b,c]) (hg:¬ G g):∀ v:Wd G w0,v.val.cell? ⟨g,0,none⟩=some a/\v.val.cell? ⟨g,1,none⟩=some b/\v.val.cell? ⟨g,2,none⟩=some c:=fun v=>by
 have k:=h.mv v.ok hg;exact ⟨k.cell 0,k.cell 1,k.cell 2⟩
theorem aC {w0:World} {a:Addr} {x:Value} (h:w0.cell? a=some x) (hg:¬ G a.block):∀ v:Wd G w0,v.val.cell? a=some x:=fun v =>
 (World.cell?_of_block (v.ok.block a.block (World.block_lt_of_cell? w0 _ h) hg)).trans h
end
structure iX (w:World) (F:Nat->Prop) (A:Option Addr) (n c:Nat) (l:List UInt8):Prop where
 len:l.length=n
 le:n<=c
 cap:c<=9223372036854775807
 nil:A=none->n=0/\c=0
 at_:0 < n->∃ b o,A=some ⟨b,o,none⟩/\F b/\b < w.heap.size/\∀ i,i < n->w.cell? ⟨b,o + i,none⟩=some (.int .u8 ((l.getD i 0).toNat:Int))
structure ij (w:World) (F:Nat->Prop) (size:Nat) (A:Option Addr) (n c:Nat) (xs:List Value):Prop where
 len:xs.length=n * size
 le:n<=c
 cap:c<=9223372036854775807
 nil:A=none->n=0/\c=0
 at_:0 < n->∃ b o,A=some ⟨b,o,none⟩/\F b/\b < w.heap.size/\∀ j u,xs[j]?=some u->w.cell? ⟨b,o + j,none⟩=some u
section
variable {F G:Nat->Prop} {w w':World} {A:Option Addr} {n c size:Nat} {l:List UInt8} {xs:List Value}
theorem iX.none_ (w:World) (F:Nat->Prop):iX w F none 0 0 []:=⟨rfl,Nat.le_refl _,by omega,fun _=>⟨rfl,rfl⟩,fun h=>absurd h (by omega)⟩
theorem ij.none_ (w:World) (F:Nat->Prop) (size:Nat):ij w F size none 0 0 []:=⟨by simp,Nat.le_refl _,by omega,fun _=>⟨rfl,rfl⟩,fun h=>absurd h (by omega)⟩
theorem iX.rb (h:iX w F A n c l):RB w w.heap.size A n c l:=⟨h.len,h.le,h.cap,h.nil,fun hn=>by
 obtain ⟨b,o,e,_,hb,hc⟩:=h.at_ hn;exact ⟨b,o,e,hb,hc⟩⟩
theorem ij.rv (h:ij w F size A n c xs):RV w w.heap.size size A n c xs:=⟨h.len,h.le,h.cap,h.nil,fun hn=>by
 obtain ⟨b,o,e,_,hb,hc⟩:=h.at_ hn;exact ⟨b,o,e,hb,hc⟩⟩
theorem iX.mono (h:iX w F A n c l) (hi:∀ b,b < w.heap.size->F b->G b):iX w G A n c l:=⟨h.len,h.le,h.cap,h.nil,fun hn=>by
 obtain ⟨b,o,e,hF,hb,hc⟩:=h.at_ hn;exact ⟨b,o,e,hi b hb hF,hb,hc⟩⟩
theorem ij.mono (h:ij w F size A n c xs) (hi:∀ b,b < w.heap.size->F b->G b):ij w G size A n c xs:=⟨h.len,h.le,h.cap,h.nil,fun hn=>by
 obtain ⟨b,o,e,hF,hb,hc⟩:=h.at_ hn;exact ⟨b,o,e,hi b hb hF,hb,hc⟩⟩
theorem iX.mv (h:iX w F A n c l) (hm:Mv G w w') (hd:∀ b,b < w.heap.size->F b->¬ G b):iX w' F A n c l:=⟨h.len,h.le,h.cap,h.nil,fun hn=>by
 obtain ⟨b,o,e,hF,hb,hc⟩:=h.at_ hn;exact ⟨b,o,e,hF,Nat.lt_of_lt_of_le hb hm.size,fun i hi=>(World.cell?_of_block (hm.block b hb (hd b hb hF))).trans (hc i hi)⟩⟩
theorem ij.mv (h:ij w F size A n c xs) (hm:Mv G w w') (hd:∀ b,b < w.heap.size->F b->¬ G b):ij w' F size A n c xs:=⟨h.len,h.le,h.cap,h.nil,fun hn=>by
 obtain ⟨b,o,e,hF,hb,hc⟩:=h.at_ hn;exact ⟨b,o,e,hF,Nat.lt_of_lt_of_le hb hm.size,fun j u hu=>(World.cell?_of_block (hm.block b hb (hd b hb hF))).trans (hc j u hu)⟩⟩
theorem iX.below (h:iX w F A n c l) (hb:Below w.heap.size w w'):iX w' F A n c l:=h.mv (Mv.aq hb fun _=>False) fun _ _ _ h=>h
theorem ij.below (h:ij w F size A n c xs) (hb:Below w.heap.size w w'):ij w' F size A n c xs:=h.mv (Mv.aq hb fun _=>False) fun _ _ _ h=>h
theorem OB.Lx {base:Nat} (h:OB w base A n c l) (hF:∀ k,(Value.slice A n c).ownBlock=some k->F k):iX w F A n c l:=by
 have hr:=h.rb;refine ⟨hr.len,hr.le,hr.cap,hr.nil,fun hn=>?_⟩;obtain ⟨b,o,rfl,hb,hc⟩:=hr.at_ hn;obtain ⟨g,e,_,_⟩:=h.head hn;exact ⟨b,o,rfl,hF b (by injection e with e; injection e with e1 _; simp [Value.ownBlock]),hb,hc⟩
theorem OV.zC {base e:Nat} (h:OV w base e size A n c xs) (hF:∀ k,(Value.slice A n c).ownBlock=some k->F k):ij w F size A n c xs:=by
 have hr:=h.rv;refine ⟨hr.len,hr.le,hr.cap,hr.nil,fun hn=>?_⟩;obtain ⟨b,o,rfl,hb,hc⟩:=hr.at_ hn;exact ⟨b,o,rfl,hF b (by simp [Value.ownBlock]),hb,hc⟩
theorem ij.take (h:ij w F size A n c xs) {k:Nat} (hk:k<=n) {c':Nat} (hc':c'<=c) (hkc:k<=c'):ij w F size A k c' (xs.take (k * size)):=by
 have hm:=Nat.mul_le_mul_right size hk;refine ⟨by rw [List.length_take,h.len]; omega,hkc,Nat.le_trans hc' h.cap,fun e=>?_,fun hn=>?_⟩
 ·have:=h.nil e; omega
 ·obtain ⟨b,o,rfl,hF,hb,hc⟩:=h.at_ (by omega)
  refine ⟨b,o,rfl,hF,hb,fun j u hu=>?_⟩;rw [List.getElem?_take] at hu;split at hu
  ·exact hc j u hu
  ·cases hu
theorem ij.drop (h:ij w F size A n c xs) {k:Nat} (hk:k<=n):ij w F size (if c=k then A else A.map (·.add (k * size))) (n - k) (c - k) (xs.drop (k * size)):=by
 refine ⟨by rw [List.length_drop,h.len,Nat.sub_mul],by have:=h.le; omega,by have:=h.cap; omega,fun e=>?_,fun hn=>?_⟩
 ·have hA:A=none:=by
   split at e
   ·exact e
   ·simpa using e
  have:=h.nil hA; omega
 ·obtain ⟨b,o,rfl,hF,hb,hc⟩:=h.at_ (by omega)
  rw [if_neg (by have:=h.le; omega)];refine ⟨b,o + k * size,by simp [Addr.add_lit],hF,hb,fun j u hu=>?_⟩;rw [Nat.add_assoc];exact hc _ u (by rw [<- hu,List.getElem?_drop])
end
section
variable {P:Program} {T E size bytes:Nat} {z:Value}
theorem run_sizeOf (ht:ET P T E size bytes z) (w:World):(sizeOf E).run P w=.ok size w:=by
 obtain ⟨i,hi,_,hs,_⟩:=ht.info;simp [sizeOf,typeInfo,hi,hs]
theorem gE (ht:ET P T E size bytes z):P.elem T=E:=by
 have:=ht.sl;simp [Program.elem,this]
theorem fE (ht:ET P T E size bytes z) (A:Option Addr) (n c k:Nat) (hk:k<=n) (kd:IntKind) (w:World) :
  (Instr.slice T (.slice A n c) (some (.int kd (k:Int))) none none).run P w=.ok (.slice (if c=k then A else A.map (·.add (k * size))) (n - k) (c - k)) w:=by
 have hT:P.underlying T=some (.slice (P.elem T)):=by rw [gE ht]; exact ht.sl
 rw [run_slice_l w T A n c hT kd (k:Int) (by omega) (by omega),gE ht,run_sizeOf ht];simp [Result.andThen,sliced]
theorem iM (ht:ET P T E size bytes z) (A:Option Addr) (n c k:Nat) (hk:k<=c) (kd kd':IntKind) (w:World) :
  (Instr.slice T (.slice A n c) none (some (.int kd (k:Int))) (some (.int kd' (k:Int)))).run P w=.ok (.slice A k k) w:=by
 have hT:P.underlying T=some (.slice (P.elem T)):=by rw [gE ht]; exact ht.sl
 rw [run_slice_hm w T A n c hT kd kd' (k:Int) (k:Int) (by omega) (by omega) (by omega),gE ht,run_sizeOf ht];cases A <;> simp [Result.andThen,sliced,Addr.add]
theorem tf (ht:ET P T E size bytes z) (A:Option Addr) (n c k:Nat) (hk:k<=c) (kd:IntKind) (w:World) :
  (Instr.slice T (.slice A n c) none (some (.int kd (k:Int))) none).run P w=.ok (.slice A k c) w:=by
 have hT:P.underlying T=some (.slice (P.elem T)):=by rw [gE ht]; exact ht.sl
 rw [run_slice_h w T A n c hT kd (k:Int) (by omega) (by omega),gE ht,run_sizeOf ht];cases A <;> simp [Result.andThen,sliced,Addr.add]
end
end
namespace Nn
open Go.RowKit
structure Rs where
 P:World->(Nat->Prop)->Prop
 mv:∀ (w w':World) (F G:Nat->Prop),P w F->Mv G w w'->(∀ b,b < w.heap.size->F b->¬ G b)->P w' F
 mono:∀ (w:World) (F G:Nat->Prop),P w F->(∀ b,b < w.heap.size->F b->G b)->P w G
def Rs.Ge:Rs:=⟨fun _ _=>True,fun _ _ _ _ _ _ _=>trivial,fun _ _ _ _ _=>trivial⟩
inductive Cp where
 | node | fla | dy | pU | dn | qi | dx | gD | tv | cm (k:Nat) | out (k:Nat) | m6 | ext
def aL (ah:Nat->Cp) (a b:Nat) (i:Cp):Nat->Cp:=fun q=>if a<=q/\q < b then i else ah q
theorem bT {ah:Nat->Cp} {a b q:Nat} {i:Cp} (h:q < a):aL ah a b i q=ah q:=if_neg (by omega)
theorem ay {ah:Nat->Cp} {a b q:Nat} {i:Cp} (h:a<=q/\q < b):aL ah a b i q=i:=if_pos h
def Al (S:Cp->Rs) (w:World) (ah:Nat->Cp):Prop:=∀ i,(S i).P w (fun q=>ah q=i)
section
variable {S S':Cp->Rs} {w w':World} {ah an:Nat->Cp} {i:Cp}
theorem Al.step (h:Al S w ah) (hm:Mv (fun q=>ah q=i) w w') (hr:∀ j,j≠i->S' j=S j) (hn:(S' i).P w' (fun q=>aL ah w.heap.size w'.heap.size i q=i)):Al S' w' (aL ah w.heap.size w'.heap.size i):=by
 intro j
 by_cases hj:j=i
 ·subst hj; exact hn
 ·rw [hr j hj]
  have h1:=(S j).mono w _ (fun q=>ah q=j/\q < w.heap.size) (h j) fun b hb e=>⟨e,hb⟩
  exact (S j).mono w' _ _ ((S j).mv w w' _ _ h1 hm fun b _ hb e=>hj (hb.1.symm.trans e)) fun b _ hb=>(bT hb.2).trans hb.1
theorem Al.below (h:Al S w ah) (hb:Below w.heap.size w w') (i:Cp):Al S w' (aL ah w.heap.size w'.heap.size i):=by
 intro j;have h1:=(S j).mono w _ (fun q=>ah q=j/\q < w.heap.size) (h j) fun b hb e=>⟨e,hb⟩
 exact (S j).mono w' _ _ ((S j).mv w w' _ (fun _=>False) h1 (Mv.aq hb _) fun _ _ _ h=>h) fun b _ hb=>(bT hb.2).trans hb.1
theorem Al.cR (h:Al S w ah) (hm:Mv (fun q=>ah q=.ext) w w') (he:S .ext=Rs.Ge):Al S w' (aL ah w.heap.size w'.heap.size .ext) :=
 h.step hm (fun _ _=>rfl) (by rw [he]; trivial)
structure Kp (w:World) (ah:Nat->Cp) (w':World) (an:Nat->Cp):Prop where
 mv:Mv (fun q=>ah q≠.ext) w w'
 ext:∀ q,q < w.heap.size->ah q=.ext->an q=.ext
theorem Kp.refl (w:World) (ah:Nat->Cp):Kp w ah w ah:=⟨Mv.refl _ _,fun _ _ h=>h⟩
theorem Kp.trans {w1:World} {bN:Nat->Cp} (h:Kp w ah w1 bN) (k:Kp w1 bN w' an):Kp w ah w' an :=
 ⟨h.mv.trans k.mv fun b hb hn e=>hn (h.ext b hb e),fun q hq e=>k.ext q (Nat.lt_of_lt_of_le hq h.mv.size) (h.ext q hq e)⟩
theorem Kp.step (hm:Mv (fun q=>ah q=i) w w') (hi:i≠.ext) (j:Cp):Kp w ah w' (aL ah w.heap.size w'.heap.size j) :=
 ⟨hm.mono fun b _ e h=>hi (e.symm.trans h),fun q hq e=>(bT hq).trans e⟩
theorem Kp.below (hb:Below w.heap.size w w') (j:Cp):Kp w ah w' (aL ah w.heap.size w'.heap.size j) :=
 ⟨Mv.aq hb _,fun q hq e=>(bT hq).trans e⟩
end
end Nn
end Go.Proofs.YtijegngfclkdaaaGreatDoor
