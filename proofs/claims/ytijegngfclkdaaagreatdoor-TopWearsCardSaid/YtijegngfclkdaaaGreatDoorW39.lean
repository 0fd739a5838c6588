/-
  Pieces of the proof: part 39 of 54.
  Conditions: none.
-/
import Derived.Test.YtijegngfclkdaaaGreatDoorW38
set_option linter.unusedVariables false
set_option linter.unusedSimpArgs false
set_option maxHeartbeats 100000000
set_option maxRecDepth 100000
namespace Go.Proofs.YtijegngfclkdaaaGreatDoor.Ev
open Go Go.RowKit Tw
section
variable {X:Cx Nat} {R:Nat→Dt→Prop} {τ:List UInt8} {z0:Option Obj}
theorem oOff_ok (G:Good R τ):OrcOK X (Ot R τ z0) 110 oOff:=by
 intro args s v s' h;unfold oOff at h;split at h
 ·rename_i a
  rw [gd_some] at h;obtain ⟨hb,h⟩:=h;simp only [Bool.and_eq_true] at hb;have key:∃ b,v=blA b∧s'=s∧∀ x,R (tP s.g) x→x.V.off=b:=by
   split at h
   ·rename_i e
    injection h with h; injection h with h1 h2
    exact ⟨true,h1.symm,h2.symm,fun x hx=>G.off9 x (by rw [← Nat.eq_of_beq_eq_true e]; exact hx)⟩
   ·rw [gd_some] at h
    obtain ⟨e,h⟩:=h;injection h with h; injection h with h1 h2
    refine ⟨false,h1.symm,h2.symm,fun x hx=>G.offn (tP s.g) x ?_ hx⟩;simp only [Bool.or_eq_true] at e;rcases e with (((e | e) | e) | e) | e
    ·exact .inl (Nat.eq_of_beq_eq_true e)
    ·exact .inr (.inl (Nat.eq_of_beq_eq_true e))
    ·exact .inr (.inr (.inl (Nat.eq_of_beq_eq_true e)))
    ·exact .inr (.inr (.inr (.inl (Nat.eq_of_beq_eq_true e))))
    ·exact .inr (.inr (.inr (.inr (Nat.eq_of_beq_eq_true e))))
  obtain ⟨b,rfl,rfl,hx⟩:=key;refine ⟨Nat.le_refl _,fun E w vals Rl hf hargs=>?_⟩;obtain ⟨xx,col,K⟩:=Rl.out;obtain ⟨gf,A,c,A',c',f1,f2⟩:=K.fv;obtain ⟨gv,gj,gl,A1,c1,xs,As,cs,k1,k2,k3,k4⟩:=f2 (hasN_ne hb.1)
  match vals,hargs with
  | [vv],⟨a1,_⟩ =>
   obtain ⟨_,rfl⟩:=isOp_R hb.2 a1;rw [k2];refine (vOff_any k3).mono ?_;rintro e w' ⟨rfl,rfl⟩;rw [hx xx K.ph];exact ⟨_,rfl,step_quiet Rl (Below.refl _ _) ⟨rfl,rfl⟩⟩
 ·cases h
theorem oOdd_ok (G:Good R τ):OrcOK X (Ot R τ z0) 97 oOdd:=by
 intro args s v s' h;unfold oOdd at h;split at h
 ·rename_i a
  rw [gd_some] at h;obtain ⟨hb,h⟩:=h;simp only [Bool.and_eq_true] at hb;have key:∃ b,v=blA b∧s'=s∧∀ x,R (tP s.g) x→x.V.odd=b:=by
   split at h
   ·rename_i e
    injection h with h; injection h with h1 h2
    exact ⟨true,h1.symm,h2.symm,fun x hx=>G.odd20 x (by rw [← Nat.eq_of_beq_eq_true e]; exact hx)⟩
   ·rw [gd_some] at h
    obtain ⟨e,h⟩:=h;injection h with h; injection h with h1 h2
    exact ⟨false,h1.symm,h2.symm,fun x hx=>G.odd19 x (by rw [← Nat.eq_of_beq_eq_true e]; exact hx)⟩
  obtain ⟨b,rfl,rfl,hx⟩:=key;refine ⟨Nat.le_refl _,fun E w vals Rl hf hargs=>?_⟩;obtain ⟨xx,col,K⟩:=Rl.out;obtain ⟨gf,A,c,A',c',f1,f2⟩:=K.fv;obtain ⟨gv,gj,gl,A1,c1,xs,As,cs,k1,k2,k3,k4⟩:=f2 (hasN_ne hb.1)
  match vals,hargs with
  | [vv],⟨a1,_⟩ =>
   obtain ⟨_,rfl⟩:=isOp_R hb.2 a1;rw [k2];refine (vOdd_any k3).mono ?_;rintro e w' ⟨rfl,rfl⟩;rw [hx xx K.ph];exact ⟨_,rfl,step_quiet Rl (Below.refl _ _) ⟨rfl,rfl⟩⟩
 ·cases h
theorem oLoad_ok (G:Good R τ):OrcOK X (Ot R τ z0) 93 oLoad:=by
 intro args s v s' h;unfold oLoad at h;split at h
 ·rename_i a d
  rw [gd_some] at h;obtain ⟨hb,h⟩:=h;simp only [Bool.and_eq_true] at hb;obtain ⟨⟨⟨hb1,hb2⟩,hb3⟩,hb4⟩:=hb;have key:∃ p,p < 64∧(p≠1∧p≠2∧p≠21)∧v=.w (.one (.a .top))∧s'=toP s p∧∀ x,R (tP s.g) x→R p { x with D:=loadD x.D x.V.s }:=by
   split at h
   ·rename_i e
    injection h with h; injection h with h1 h2
    exact ⟨19,by decide,by decide,h1.symm,h2.symm,fun x hx=>G.load17 x (by rw [← Nat.eq_of_beq_eq_true e]; exact hx)⟩
   ·rw [gd_some] at h
    obtain ⟨e,h⟩:=h;injection h with h; injection h with h1 h2
    exact ⟨20,by decide,by decide,h1.symm,h2.symm,fun x hx=>G.load18 x (by rw [← Nat.eq_of_beq_eq_true e]; exact hx)⟩
  obtain ⟨p,hp,hp',rfl,rfl,hR⟩:=key;refine ⟨Nat.le_refl _,fun E w vals Rl hf hargs=>?_⟩;obtain ⟨xx,col,K⟩:=Rl.out;obtain ⟨g,gd,lc,vc,la,vA,ys,vs,k1,k2,k3,k4⟩:=K.dic (hasN_ne hb1);obtain ⟨gf,A,c,A',c',f1,f2⟩:=K.fv;obtain ⟨gv,gj,gl,A1,c1,xs,As,cs,v1,v2,v3,v4⟩:=f2 (hasN_ne hb3)
  match vals,hargs with
  | [vv,dv],⟨a1,a2,_⟩ =>
   obtain ⟨_,rfl⟩:=isOp_R hb4 a1;obtain ⟨_,rfl⟩:=isOp_R hb2 a2;rw [k2,v2];have hgd:gd < w.heap.size∧col gd=2:=by
    obtain ⟨q,hq,_,hlt⟩:=k3.own.head k4.pos;have:=k3.at_ q (by rw [hq]; rfl);rw [← this.1];exact ⟨hlt,by rw [this.1]; exact this.2⟩
   refine (vLoad_any v3 k3 k4.dfl k4.pos (fun f hf=>Nat.le_trans (v4 f hf) (by decide)) (by rw [hgd.2]; decide)).mono ?_;rintro e w' ⟨⟨z,rfl⟩,m,vs',hd'⟩;refine ⟨_,rfl,step_same (x':={ xx with D:=loadD xx.D xx.V.s }) (I:=fun k=>k=2) (i:=2) hp Rl K (by decide) (by decide) m (fun b _ e=>by have e2:b=gd:=e; rw [e2,hgd.2]; exact ⟨by decide,rfl⟩) rfl (fun _ _ _=>rfl) (hR xx K.ph) hp' (fun ad=>?_) (fun ad _=>?_) (by decide)⟩
   ·have f3:=ad.fla (by decide) _ _ _ _ _ _ f1
    exact ⟨gf,A,c,A',c',⟨f3.nm,f3.sy,f3.mem,f3.at_⟩,fun hv=>ad.vlt (by decide) xx _ _ (f2 hv)⟩
   ·exact ⟨g,gd,lc,vc,la,vA,ys,vs',k1,k2,hd'.mono fun q hq hF=>recol_or (F:=fun q=>col q=2) hF fun h=>⟨K.ltB q (by rw [h]; decide),h⟩,k4.load v4⟩
 ·cases h
theorem oStart_ok (G:Good R τ):OrcOK X (Ot R τ z0) 113 oStart:=by
 intro args s v s' h;unfold oStart at h;split at h
 ·rename_i a
  rw [gd_some] at h;obtain ⟨hb,h⟩:=h;have key:∃ p,p < 64∧(p≠1∧p≠2∧p≠21)∧v=.tup []∧s'=toP s p∧∀ x,R (tP s.g) x→R p { x with f:={ x.f with off:=false } }:=by
   split at h
   ·rename_i e
    injection h with h; injection h with h1 h2
    exact ⟨15,by decide,by decide,h1.symm,h2.symm,fun x hx=>G.start13 x (by rw [← Nat.eq_of_beq_eq_true e]; exact hx)⟩
   ·rw [gd_some] at h
    obtain ⟨e,h⟩:=h;injection h with h; injection h with h1 h2
    exact ⟨16,by decide,by decide,h1.symm,h2.symm,fun x hx=>G.start14 x (by rw [← Nat.eq_of_beq_eq_true e]; exact hx)⟩
  obtain ⟨p,hp,hp',rfl,rfl,hR⟩:=key;refine ⟨Nat.le_refl _,fun E w vals Rl hf hargs=>?_⟩;obtain ⟨xx,col,K⟩:=Rl.out;obtain ⟨gf,A,c,A',c',f1,f2⟩:=K.fv
  match vals,hargs with
  | [fv],⟨a1,_⟩ =>
   obtain ⟨_,rfl⟩:=isOp_R hb a1;rw [f1.sy];have hgf:col gf=1:=f1.at_ gf (.inl rfl);refine (fStart_any f1.mem).mono ?_;rintro e w' ⟨rfl,m,f'⟩;refine ⟨_,rfl,step_same (x':={ xx with f:={ xx.f with off:=false } }) (I:=fun k=>k=1) (i:=1) hp Rl K (by decide) (by decide) m (fun b _ e=>by have e2:b=gf:=e; rw [e2,hgf]; exact ⟨by decide,rfl⟩) rfl (fun _ _ _=>⟨_,rfl,trivial⟩) (hR xx K.ph) hp' (fun ad=>?_) (fun ad h=>ad.dic (by decide) xx _ (K.dic h)) (by decide)⟩;exact ⟨gf,A,c,A',c',⟨f1.nm,f1.sy,f',fun q hq=>by rw [recol_old (f1.mem.lt hq)]; exact f1.at_ q hq⟩,fun hv=>ad.vlt (by decide) xx _ _ (f2 hv)⟩
 ·cases h
theorem cmdA_cases {p:Nat} {s s':St Nat} {v:AV} (h:cmdA p s=some (v,s')):(tP s.g=p∧v=u32A 0∧s'=toP s 7)∨(tP s.g=p + 1∧v=u32A 101056512∧s'=toP s 8)∨(tP s.g=p + 2∧v=u32A 101056512∧s'=toP s 9):=by
 unfold cmdA at h;split at h
 ·rename_i e
  injection h with h; injection h with h1 h2
  exact .inl ⟨Nat.eq_of_beq_eq_true e,h1.symm,h2.symm⟩
 ·split at h
  ·rename_i e
   injection h with h; injection h with h1 h2
   exact .inr (.inl ⟨Nat.eq_of_beq_eq_true e,h1.symm,h2.symm⟩)
  ·rw [gd_some] at h
   obtain ⟨e,h⟩:=h;injection h with h; injection h with h1 h2
   exact .inr (.inr ⟨Nat.eq_of_beq_eq_true e,h1.symm,h2.symm⟩)
theorem step_cmd {s:St Nat} {p:Nat} {E:Env} {w w':World} {x:Dt} {col:Nat→Nat} {v:AV} {gf c c':Nat} {A A':Option Addr} {gv gj gl c1 cs:Nat} {A1 As:Option Addr} {xs:List Value} {kind:Nat} {l:List Dc.Vl} {e:Ending} (hp:p < 64) (hp':p≠1∧p≠2∧p≠21) (Rl:Rel X (Ot R τ z0) E s.S.get s.g w) (K:OkT R τ z0 s.g E w x col)
  (f1:PF E w col x gf A c A' c') (hD:E.D (tV s.g)) (hsy:E.sy (tV s.g)=.pointer (some ⟨gv,0,none⟩)) (v3:VaM w (fun q=>col q=3) gv gj gl A1 c1 xs gf As cs x.V) (v4:∀ f∈x.V.s,f.data.length≤2000) (hl:∀ f∈l,f.data.length≤2000) (hL:0 < x.V.L.length)
  (hk:KeepP w w.heap.size 0 gf A (x.m * 1024) c A' x.m c' (fun q=>col q=3) gv gj gl A1 c1 x.f x.V kind l e w') (hv:∀ bs:List UInt8,bs.length=Sn.sizeV l→v=u32A (codeZ (appD x kind bs).code)∧R p (cmdD x (appD x kind bs) l)) :
  ∃ y,e=.returned y∧StepP X (Ot R τ z0) E s w (some v) (toP s p) y w':=by
 obtain ⟨bs,xs',As',cs',hbs,rfl,m,f',V'⟩:=hk;obtain ⟨rfl,hR⟩:=hv bs hbs;have hgl:col gl=3:=by
  obtain ⟨q,e,_,_⟩:=v3.jo.own.head hL;exact (v3.jo.at_ q (by rw [e]; rfl)).2.1
 refine ⟨_,rfl,step_same (x':=cmdD x (appD x kind bs) l) (I:=fun k=>k=1∨k=3) (i:=3) hp Rl K (by decide) (by decide) m (fun b _ hg=>?_) rfl (fun _ _ _=>⟨rfl,rfl⟩) hR hp' (fun ad=>?_) (fun ad h=>ad.dic (by decide) x _ (K.dic h)) (by decide)⟩
 ·rcases hg with hg | hg | hg | hg
  ·have h3:col b=3:=by rw [hg]; exact v3.fg
   rw [h3]; exact ⟨by decide,.inr rfl⟩
  ·have h3:col b=3:=by rw [hg]; exact v3.jo.fg.1
   rw [h3]; exact ⟨by decide,.inr rfl⟩
  ·rw [hg,hgl]; exact ⟨by decide,.inr rfl⟩
  ·rw [f1.at_ b hg]; exact ⟨by decide,.inl rfl⟩
 ·refine ⟨gf,A,c,A',c',⟨f1.nm,f1.sy,f',fun q hq=>by rw [recol_old (f1.mem.lt hq)]; exact f1.at_ q hq⟩,fun _=>⟨gv,gj,gl,A1,c1,xs',As',cs',hD,hsy,V'.mono fun q hq hF=>recol_or (F:=fun q=>col q=3) hF fun h=>⟨K.ltB q (by rw [h]; decide),h⟩,fun f hf=>?_⟩⟩
  have hf':f∈(endV (apV x.V (appD x kind bs)) l (appD x kind bs).code).s:=hf;unfold endV at hf';split at hf'
  ·exact hl f hf'
  ·exact v4 f hf'
theorem oStore_ok (G:Good R τ):OrcOK X (Ot R τ z0) 269 oStore:=by
 intro args s v s' h;unfold oStore at h;split at h
 ·rename_i a d n
  rw [gd_some] at h;obtain ⟨hb,h⟩:=h;simp only [Bool.and_eq_true] at hb;obtain ⟨⟨⟨⟨hb1,hb2⟩,hb3⟩,hb4⟩,hb5⟩:=hb;have hn:=eqI_tru hb5;subst hn;have key:∃ p,p < 64∧(p≠1∧p≠2∧p≠21)∧s'=toP s p∧∀ x,DW x.D→R (tP s.g) x→Cmd x (Sn.sizeV (Sn.ofS x.D))∧∀ bs:List UInt8,bs.length=Sn.sizeV (Sn.ofS x.D)→v=u32A (codeZ (appD x 1 bs).code)∧R p (cmdD x (appD x 1 bs) (Sn.ofS x.D)):=by
   rcases cmdA_cases h with ⟨e,rfl,rfl⟩ | ⟨e,rfl,rfl⟩ | ⟨e,rfl,rfl⟩
   ·refine ⟨7,by decide,by decide,rfl,fun x hd hx=>?_⟩
    obtain ⟨g1,g2⟩:=G.st4 x hd (e ▸ hx);exact ⟨g1,fun bs hbs=>⟨by rw [(g2 bs hbs).1]; rfl,(g2 bs hbs).2⟩⟩
   ·refine ⟨8,by decide,by decide,rfl,fun x hd hx=>?_⟩
    obtain ⟨g1,g2⟩:=G.st5 x hd (by rw [e] at hx; exact hx);exact ⟨g1,fun bs hbs=>⟨by unfold codeZ; rw [if_neg (g2 bs hbs).1],(g2 bs hbs).2⟩⟩
   ·refine ⟨9,by decide,by decide,rfl,fun x hd hx=>?_⟩
    obtain ⟨g1,g2⟩:=G.st6 x hd (by rw [e] at hx; exact hx);exact ⟨g1,fun bs hbs=>⟨by unfold codeZ; rw [if_neg (g2 bs hbs).1],(g2 bs hbs).2⟩⟩
  obtain ⟨p,hp,hp',rfl,hR⟩:=key;refine ⟨Nat.le_refl _,fun E w vals Rl hf hargs=>?_⟩;obtain ⟨xx,col,K⟩:=Rl.out;obtain ⟨g,gd,lc,vc,la,vA,ys,vs,k1,k2,k3,k4⟩:=K.dic (hasN_ne hb1);obtain ⟨gf,A,c,A',c',f1,f2⟩:=K.fv;obtain ⟨gv,gj,gl,A1,c1,xs,As,cs,v1,v2,v3,v4⟩:=f2 (hasN_ne hb3)
  match vals,hargs with
  | [vv,dv,nv],⟨a1,a2,a3,_⟩ =>
   obtain ⟨_,rfl⟩:=isOp_R hb4 a1;obtain ⟨_,rfl⟩:=isOp_R hb2 a2;obtain rfl:nv=.int .i64 1:=a3.1;rw [k2,v2];obtain ⟨⟨c1',c2',c3'⟩,hR2⟩:=hR xx k4 K.ph;have st:=k4.stored;refine (vStore_any v3 f1.mem (fun q hq h3=>by rw [f1.at_ q hq] at h3; exact absurd h3 (by decide)) (fun q h3=>K.ltB q (by rw [h3]; decide)) K.g ⟨by rw [K.c0]; decide,fun h=>by have:=f1.at_ 0 h; rw [K.c0] at this; exact absurd this (by decide)⟩ k3 k4.dfl k4.small st.ord st.there (Nat.le_trans st.size (by decide)) (by rw [st.len]; decide) (fun f hf=>Nat.le_trans (st.data f hf) (by decide)) c3' c2' c1').mono ?_;intro e w' hk;exact step_cmd hp hp' Rl K f1 v1 v2 v3 v4 (fun f hf=>Nat.le_trans (st.data f hf) (by decide)) (by have:=c3'.hL; have:=c3'.hm1; omega) hk hR2
 ·cases h
theorem oRestore_ok (G:Good R τ):OrcOK X (Ot R τ z0) 270 oRestore:=by
 intro args s v s' h;unfold oRestore at h;split at h
 ·rename_i a n
  rw [gd_some] at h;obtain ⟨hb,h⟩:=h;simp only [Bool.and_eq_true] at hb;obtain ⟨⟨hb3,hb4⟩,hb5⟩:=hb;have hn:=eqI_tru hb5;subst hn;have key:∃ p,p < 64∧(p≠1∧p≠2∧p≠21)∧s'=toP s p∧∀ x,R (tP s.g) x→Cmd x 0∧v=u32A (codeZ (appD x 2 []).code)∧R p (cmdD x (appD x 2 []) []):=by
   rcases cmdA_cases h with ⟨e,rfl,rfl⟩ | ⟨e,rfl,rfl⟩ | ⟨e,rfl,rfl⟩
   ·refine ⟨7,by decide,by decide,rfl,fun x hx=>?_⟩
    obtain ⟨g1,g2,g3⟩:=G.rs10 x (e ▸ hx);exact ⟨g1,by rw [g2]; rfl,g3⟩
   ·refine ⟨8,by decide,by decide,rfl,fun x hx=>?_⟩
    obtain ⟨g1,g2,g3⟩:=G.rs11 x (by rw [e] at hx; exact hx);exact ⟨g1,by unfold codeZ; rw [if_neg g2],g3⟩
   ·refine ⟨9,by decide,by decide,rfl,fun x hx=>?_⟩
    obtain ⟨g1,g2,g3⟩:=G.rs12 x (by rw [e] at hx; exact hx);exact ⟨g1,by unfold codeZ; rw [if_neg g2],g3⟩
  obtain ⟨p,hp,hp',rfl,hR⟩:=key;refine ⟨Nat.le_refl _,fun E w vals Rl hf hargs=>?_⟩;obtain ⟨xx,col,K⟩:=Rl.out;obtain ⟨gf,A,c,A',c',f1,f2⟩:=K.fv;obtain ⟨gv,gj,gl,A1,c1,xs,As,cs,v1,v2,v3,v4⟩:=f2 (hasN_ne hb3)
  match vals,hargs with
  | [vv,nv],⟨a1,a3,_⟩ =>
   obtain ⟨_,rfl⟩:=isOp_R hb4 a1;obtain rfl:nv=.int .i64 1:=a3.1;rw [v2];obtain ⟨⟨c1',c2',c3'⟩,hR2,hR3⟩:=hR xx K.ph;refine (vRestore_any v3 f1.mem (fun q hq h3=>by rw [f1.at_ q hq] at h3; exact absurd h3 (by decide)) (fun q h3=>K.ltB q (by rw [h3]; decide)) K.g ⟨by rw [K.c0]; decide,fun h=>by have:=f1.at_ 0 h; rw [K.c0] at this; exact absurd this (by decide)⟩ c3' c2' c1').mono ?_;intro e w' hk;exact step_cmd hp hp' Rl K f1 v1 v2 v3 v4 (fun f hf=>by cases hf) (by have:=c3'.hL; have:=c3'.hm1; omega) hk fun bs hbs=>by
    have:bs=[]:=List.eq_nil_of_length_eq_zero hbs;subst this;exact ⟨hR2,hR3⟩
 ·cases h
end
end Go.Proofs.YtijegngfclkdaaaGreatDoor.Ev
namespace Go.Proofs.YtijegngfclkdaaaGreatDoor.Ev
open Go Go.RowKit Tw
theorem parS_len {N:Nat}:∀ (f:Nat) (b:List UInt8) (out vs:List Dc.Vl),Sn.parS f b out=some vs→(∀ v∈out,v.data.length≤N)→b.length≤N→∀ v∈vs,v.data.length≤N
 | 0,b,out,vs,h,ho,_=>by
  simp only [Sn.parS] at h;injection h with h
  subst h;exact ho
 | f + 1,b,out,vs,h,ho,hb=>by
  rw [Sn.parS] at h;split at h
  ·injection h with h
   subst h;exact ho
  ·split at h
   ·cases h
   ·rename_i v r hone
    obtain ⟨g1,g2⟩:=Sn.one_less hone;split at h
    ·cases h
    ·refine parS_len f r _ vs h (fun u hu=>?_) (by omega)
     rcases List.mem_append.1 hu with hu | hu
     ·exact ho u hu
     ·simp only [List.mem_singleton] at hu
      subst hu;omega
theorem openV_len (f:Fla) (m:Nat) (D:Dc.Dic):∀ v∈(openV f m D).s,v.data.length≤2000:=by
 unfold openV;split
 ·split
  ·intro v hv; cases hv
  ·rename_i vs hps
   split
   ·intro v hv
    unfold Sn.parseS at hps;split at hps
    ·cases hps
    ·rename_i hlt
     have:=parS_len (N:=960) _ _ _ _ hps (fun u hu=>by cases hu) (by omega) v hv;omega
   ·intro v hv; cases hv
 ·intro v hv; cases hv
def Env.nm (E:Env) (c:Nat) (v:Value) (B:Nat→Prop):Env:={ E with sy:=fun i=>if i=c then v else E.sy i,D:=fun i=>E.D i∨i=c,B:=B }
section
variable {X:Cx Nat} {R:Nat→Dt→Prop} {τ:List UInt8} {z0:Option Obj}
theorem Env.nm_ext {E:Env} {c:Nat} {v:Value} {B:Nat→Prop} (h:¬ E.D c):Ext E (E.nm c v B):=fun id hd=>⟨.inl hd,rfl,rfl,rfl,by
 show (if id=c then v else E.sy id)=E.sy id;exact if_neg fun e=>h (by rw [← e]; exact hd)⟩
theorem Env.nm_sy {E:Env} {c:Nat} {v:Value} {B:Nat→Prop}:(E.nm c v B).sy c=v:=if_pos rfl
theorem Env.nm_D {E:Env} {c:Nat} {v:Value} {B:Nat→Prop}:(E.nm c v B).D c:=.inr rfl
theorem step_new {s:St Nat} {g':Nat} {E:Env} {w w':World} {x x':Dt} {col:Nat→Nat} {i:Nat} {v:AV} {y u:Value} (Rl:Rel X (Ot R τ z0) E s.S.get s.g w) (K:OkT R τ z0 s.g E w x col) (hf:¬ E.D s.c) (hi:i≠0) (hm:Below w.heap.size w w')
  (hv:RV (E.nm s.c u fun b=>recol col w.heap.size w'.heap.size i b≠0) v y)
  (ok:Adv E w col (fun _=>False) (E.nm s.c u fun b=>recol col w.heap.size w'.heap.size i b≠0) w' (recol col w.heap.size w'.heap.size i) z0→OkT R τ z0 g' (E.nm s.c u fun b=>recol col w.heap.size w'.heap.size i b≠0) w' x' (recol col w.heap.size w'.heap.size i)) :
  StepP X (Ot R τ z0) E s w (some v) { s with c:=s.c + 1,g:=g' } y w':=by
 have hx:Ext E (E.nm s.c u fun b=>recol col w.heap.size w'.heap.size i b≠0):=Env.nm_ext hf;have hmv:Mv (fun _=>False) w w':=Mv.of_new hm _;have ad:=K.adv (E':=E.nm s.c u fun b=>recol col w.heap.size w'.heap.size i b≠0) (I:=fun _=>False) hi (fun h=>h) hx (fun _=>Iff.rfl) hmv fun b _ h=>h
 obtain ⟨r',m⟩:=step_out (c:=s.c) (c':=s.c + 1) (g':=g') (E':=E.nm s.c u fun b=>recol col w.heap.size w'.heap.size i b≠0) Rl hx (hmv.mono fun b _ h=>h.elim) (fun b hb=>by
  have hb':recol col w.heap.size w'.heap.size i b≠0:=hb;unfold recol at hb';split at hb'
  ·rename_i e; exact .inr e
  ·exact .inl ((K.inB b).2 hb')) (fun k h=>h.elim (fun h=>.inl h) fun e=>.inr (by omega)) ⟨x',_,ok ad⟩
 exact ⟨_,fun av e=>by injection e with e; rw [← e]; exact hv,r',m⟩
theorem tV_lt (t:Nat):tV t < 65536:=by unfold tV; omega
theorem tL_lt (t:Nat):tL t < 65536:=by unfold tL; omega
theorem oOpen_ok (G:Good R τ):OrcOK X (Ot R τ z0) 92 oOpen:=by
 intro args s v s' h;unfold oOpen at h;split at h
 ·rename_i a d
  rw [gd_some] at h;obtain ⟨hb,h⟩:=h;simp only [Bool.and_eq_true] at hb;obtain ⟨⟨⟨hb1,hb2⟩,hb3⟩,hb4⟩:=hb;have hc:s.c < 65536:=by simpa [Nat.blt_eq] using hb4
  have key:∃ p,p < 64∧(p≠1∧p≠2∧p≠21)∧v=.tup [.one (.a (.op s.c)),c6 0]∧s'={ s with c:=s.c + 1,g:=tg p s.c (tL s.g) (tD s.g) }∧∀ x,R (tP s.g) x→x.f.off=false∧R p { x with V:=openV x.f x.m x.D }:=by
   split at h
   ·rename_i e
    injection h with h; injection h with h1 h2
    exact ⟨18,by decide,by decide,h1.symm,h2.symm,fun x hx=>G.open16 x (by rw [← Nat.eq_of_beq_eq_true e]; exact hx)⟩
   ·rw [gd_some] at h
    obtain ⟨e,h⟩:=h;injection h with h; injection h with h1 h2
    simp only [Bool.or_eq_true] at e;refine ⟨17,by decide,by decide,h1.symm,h2.symm,fun x hx=>?_⟩;rcases e with e | e
    ·exact G.open15 x (by rw [← Nat.eq_of_beq_eq_true e]; exact hx)
    ·exact G.open22 x (by rw [← Nat.eq_of_beq_eq_true e]; exact hx)
  obtain ⟨p,hp,hp',rfl,rfl,hR⟩:=key;refine ⟨Nat.le_succ _,fun E w vals Rl hf hargs=>?_⟩;obtain ⟨xx,col,K⟩:=Rl.out;obtain ⟨g,gd,lc,vc,la,vA,ys,vs,k1,k2,k3,k4⟩:=K.dic (hasN_ne hb1);obtain ⟨gf,A,c,A',c',f1,f2⟩:=K.fv
  match vals,hargs with
  | [fv,dv],⟨a1,a2,_⟩ =>
   obtain ⟨_,rfl⟩:=isOp_R hb3 a1;obtain ⟨_,rfl⟩:=isOp_R hb2 a2;rw [k2,f1.sy];have hR':=hR xx K.ph;have J:=Wr.JOk.open_ xx.f xx.m;refine (vOpen_any f1.mem hR'.1 rfl K.m3.1 K.m3.2 k3 k4.dfl k4.pos (fun h=>(J.newest h).1) (fun i=>(J.ok i).len)).mono ?_;rintro e w' ⟨gv,gj,gl,A1,c1,xs,As,cs,rfl,b,V'⟩;have hD:=hf s.c (Nat.le_refl _) (Nat.lt_succ_self _);refine ⟨_,rfl,step_new (x':={ xx with V:=openV xx.f xx.m xx.D }) (i:=3) (u:=.pointer (some ⟨gv,0,none⟩)) Rl K hD (by decide) b ⟨_,rfl,⟨Env.nm_D,Env.nm_sy.symm,_,rfl⟩,⟨rfl,rfl⟩,trivial⟩ fun ad=>?_⟩;have e1:=tg_P (v:=s.c) (l:=tL s.g) (d:=tD s.g) hp;have e2:=tg_V (l:=tL s.g) (d:=tD s.g) hp hc;have e3:=tg_L (d:=tD s.g) hp hc (tL_lt s.g);have e4:=tg_D (d:=tD s.g) hp hc (tL_lt s.g);have f3:=ad.fla (fun h=>h) _ _ _ _ _ _ f1
   exact { inB:=ad.inB,ltB:=ad.ltB,c0:=ad.c0,z:=ad.z,g:=ad.g,ph:=by rw [e1]; exact hR'.2,m3:=K.m3,fv:=⟨gf,A,c,A',c',⟨f3.nm,f3.sy,f3.mem,f3.at_⟩,by
     rw [e2];exact fun _=>⟨gv,gj,gl,A1,c1,xs,As,cs,Env.nm_D,Env.nm_sy,V'.mono fun q hq h=>recol_new ⟨h,hq⟩,openV_len _ _ _⟩⟩,dic:=by rw [e4]; exact fun h=>ad.dic (fun h=>h) xx _ (K.dic h),log:=by rw [e3]; exact fun h=>ad.log (fun h=>h) _ (K.log h),txt:=by rw [e1]; exact fun h=>absurd h (by omega),ent:=by rw [e1]; exact fun h=>absurd h (by omega) }
 ·cases h
theorem oNew_ok (G:Good R τ):OrcOK X (Ot R τ z0) 48 oNew:=by
 intro args s v s' h;unfold oNew at h;split at h
 ·rename_i a
  rw [gd_some] at h;obtain ⟨hb,h⟩:=h;simp only [Bool.and_eq_true] at hb;obtain ⟨⟨hb1,hb2⟩,hb4⟩:=hb;have hc:s.c < 65536:=by simpa [Nat.blt_eq] using hb4
  injection h with h
  injection h with h1 h2
  subst h1 h2;refine ⟨Nat.le_succ _,fun E w vals Rl hf hargs=>?_⟩;obtain ⟨xx,col,K⟩:=Rl.out;have hph:=Nat.eq_of_beq_eq_true hb2;obtain ⟨H,N,w0,A0,c0,B',n0,d0,d1,b0,q1,q2,q3⟩:=K.ent hph;obtain ⟨gf,A,c,A',c',f1,f2⟩:=K.fv
  match vals,hargs with
  | [lv],⟨a1,_⟩ =>
   obtain ⟨_,rfl⟩:=isSy_R hb1 a1;rw [q2];have hD:=hf s.c (Nat.le_refl _) (Nat.lt_succ_self _);have hR:=G.new21 xx (by rw [← hph]; exact K.ph);refine (dNew_any w (n0 w d1 d0) d1 b0 dflt_W).mono ?_;rintro e w' (⟨_,b,g,gv,lc,vc,la,vA,xs,vs,rfl,hd⟩ | ⟨hbad,_⟩)
   ·refine ⟨_,rfl,step_new (x':={ xx with D:=⟨esW,esW.map (·.dflt)⟩ }) (i:=2) (u:=.pointer (some ⟨g,0,none⟩)) Rl K hD (by decide) b ⟨_,rfl,⟨Env.nm_D,Env.nm_sy.symm,_,rfl⟩,⟨rfl,rfl⟩,⟨rfl,rfl⟩,trivial⟩ fun ad=>?_⟩
    have e1:=tg_P (v:=tV s.g) (l:=tL s.g) (d:=s.c) (show 22 < 64 by decide);have e2:=tg_V (l:=tL s.g) (d:=s.c) (show 22 < 64 by decide) (tV_lt s.g);have e3:=tg_L (d:=s.c) (show 22 < 64 by decide) (tV_lt s.g) (tL_lt s.g);have e4:=tg_D (d:=s.c) (show 22 < 64 by decide) (tV_lt s.g) (tL_lt s.g);have f3:=ad.fla (fun h=>h) _ _ _ _ _ _ f1
    exact { inB:=ad.inB,ltB:=ad.ltB,c0:=ad.c0,z:=ad.z,g:=ad.g,ph:=by rw [e1]; exact hR,m3:=K.m3,fv:=⟨gf,A,c,A',c',⟨f3.nm,f3.sy,f3.mem,f3.at_⟩,by rw [e2]; exact fun hv=>ad.vlt (fun h=>h) xx _ _ (f2 hv)⟩,dic:=(by
      rw [e4];exact fun _=>⟨g,gv,lc,vc,la,vA,xs,vs,Env.nm_D,Env.nm_sy,hd.mono fun q hq h=>recol_new ⟨h,hq⟩,DW.new⟩),log:=by rw [e3]; exact fun h=>ad.log (fun h=>h) _ (K.log h),txt:=by rw [e1]; exact fun h=>absurd h (by omega),ent:=by rw [e1]; exact fun h=>absurd h (by omega) }
   ·exact absurd (by rw [new_W]) hbad
 ·cases h
end
end Go.Proofs.YtijegngfclkdaaaGreatDoor.Ev
namespace Go.Proofs.YtijegngfclkdaaaGreatDoor.Ev
open Go Go.RowKit Tw
section
variable {X:Cx Nat} {R:Nat→Dt→Prop} {τ:List UInt8} {z0:Option Obj}
theorem isLog_R {t:Nat} {E:Env} {w:World} {x:Dt} {col:Nat→Nat} (K:OkT R τ z0 t E w x col) {c:Ce} {y:Value} (h:isLog (tL t) c=true) (hr:RC E c y):∃ A n k,y=.slice A n k∧LgM w (fun q=>col q=4) A n k:=by
 unfold isLog at h;split at h
 ·rename_i j
  simp only [Bool.and_eq_true] at h;have e:=Nat.eq_of_beq_eq_true h.2;subst e;obtain ⟨A,n,k,_,h2,h3⟩:=K.log (hasN_ne h.1);exact ⟨A,n,k,by rw [← h2]; exact hr.2.1,h3⟩
 ·exact ⟨none,0,0,hr.1,LgM.none _ _⟩
 ·cases h
theorem tP_lt (t:Nat):tP t < 64:=by unfold tP; omega
theorem oNote_ok:OrcOK X (Ot R τ z0) 67 oNote:=by
 intro args s v s' h;unfold oNote at h;split at h
 ·rename_i id i r d
  split at h
  ·rename_i n cl xc ty hS
   rw [gd_some] at h;obtain ⟨hb,h⟩:=h;injection h with h
   injection h with h1 h2
   subst h1 h2;simp only [Bool.and_eq_true] at hb;obtain ⟨⟨⟨hb1,hb2⟩,hb3⟩,hb4⟩:=hb;have hc:s.c < 65536:=by simpa [Nat.blt_eq] using hb3
   have hph:tP s.g≠1∧tP s.g≠2∧tP s.g≠21:=by
    simp only [Bool.or_eq_true] at hb4;rcases hb4 with ((e | e) | e) | e <;> (have:=Nat.eq_of_beq_eq_true e; omega)
   refine ⟨Nat.le_succ _,fun E w vals Rl hf hargs=>?_⟩;obtain ⟨xx,col,K⟩:=Rl.out
   match vals,hargs with
   | [bv,fv],⟨a1,a2,_⟩ =>
    obtain ⟨hDid,rfl⟩:=a1;obtain ⟨u1,u2,u3,rfl,r1,r2,r3⟩:=agg3 a2;obtain rfl:u1=.int .i64 i:=r1.1;obtain rfl:u2=.bool r:=r2.1;have hdat:∃ b,bytesOf s.S d=some b∧b.length≤1000:=by
     unfold isData at hb2;split at hb2
     ·rename_i b hbs
      exact ⟨b,hbs,Nat.le_of_ble_eq_true hb2⟩
     ·cases hb2
    obtain ⟨bs,hbs,hbl⟩:=hdat;obtain ⟨A2,c2,rfl,hr⟩:=bytesOf_R Rl.ob hbs r3;have ro:=(Rl.ob id _ hS).2;obtain ⟨arr,fz,q1,q2,q3,q4,q5⟩:=ro;obtain ⟨xv,x1,x2⟩:=q5 2 xc rfl;obtain ⟨A,n0,k0,rfl,L⟩:=isLog_R K hb1 x2;have hne:s.S.get id≠none:=by rw [hS]; simp
    have hlt:E.ι id < w.heap.size:=Rl.block_lt hS;have hcol:col (E.ι id)=0:=by
     have:=Rl.apart id hne;rw [K.inB] at this;exact Decidable.of_not_not this
    have hgb:w.cell? ⟨E.ι id,E.sh id + 0 + 2,none⟩=some (.slice A n0 k0):=(cell_of q1).trans x1;have hsz:E.sh id + 2 < arr.size:=by
     rcases Nat.lt_or_ge (E.sh id + 2) arr.size with h | h
     ·exact h
     ·rw [Array.getElem?_eq_none h] at x1; cases x1
    have hgf:w.frozen? ⟨E.ι id,E.sh id + 0 + 2,none⟩=false:=by
     have hn:=q4.free (E.sh id + 2) hsz;simp only [World.frozen?,q1]
     by_cases e1:fz.1≤E.sh id + 2
     ·have:¬ (E.sh id + 2 < fz.2):=fun e2=>hn ⟨e1,e2⟩
      simp [this]
     ·simp [e1]
    refine (bnote_any L hgb hgf hlt (by rw [hcol]; decide) i r hr (Nat.le_refl _) (by omega)).mono ?_;rintro e w' ⟨rfl,w4,A',n',c',M4,L4,alt⟩;refine ⟨_,rfl,?_⟩;have hD:=hf s.c (Nat.le_refl _) (Nat.lt_succ_self _);have hx:Ext E (E.nm s.c (.slice A' n' c') fun b=>recol col w.heap.size w4.heap.size 4 b≠0):=Env.nm_ext hD;have ad:=K.adv (E':=E.nm s.c (.slice A' n' c') fun b=>recol col w.heap.size w4.heap.size 4 b≠0) (I:=fun k=>k=4) (i:=4) (by decide) (by decide) hx (fun _=>Iff.rfl) M4 fun b _ hb=>L.at_ b hb.symm
    have e1:=tg_P (v:=tV s.g) (l:=s.c) (d:=tD s.g) (tP_lt s.g);have e2:=tg_V (l:=s.c) (d:=tD s.g) (tP_lt s.g) (tV_lt s.g);have e3:=tg_L (d:=tD s.g) (tP_lt s.g) (tV_lt s.g) hc;have e4:=tg_D (d:=tD s.g) (tP_lt s.g) (tV_lt s.g) hc;obtain ⟨gf,Af,cf,Af',cf',f1,f2⟩:=K.fv;have ok:(Ot R τ z0).ok (tg (tP s.g) (tV s.g) s.c (tD s.g)) (E.nm s.c (.slice A' n' c') fun b=>recol col w.heap.size w4.heap.size 4 b≠0) w4 :=
     ⟨xx,_,{ inB:=ad.inB,ltB:=ad.ltB,c0:=ad.c0,z:=ad.z,g:=ad.g,ph:=(by rw [e1]; exact K.ph),m3:=K.m3,fv:=⟨gf,Af,cf,Af',cf',ad.fla (by decide) _ _ _ _ _ _ f1,by rw [e2]; exact fun hv=>ad.vlt (by decide) xx _ _ (f2 hv)⟩,dic:=(by rw [e4]; exact fun h=>ad.dic (by decide) xx _ (K.dic h)),log:=(by
       rw [e3];exact fun _=>⟨A',n',c',Env.nm_D,Env.nm_sy,L4.mono fun q _ hq=>recol_or (F:=fun q=>col q=4) hq fun h=>⟨K.ltB q (by rw [h]; decide),h⟩⟩),txt:=(by rw [e1]; exact fun h=>absurd h (by omega)),ent:=(by rw [e1]; exact fun h=>absurd h (by omega)) }⟩
    obtain ⟨R1,m1⟩:=step_out (c:=s.c) (c':=s.c + 1) (g':=tg (tP s.g) (tV s.g) s.c (tD s.g)) (E':=E.nm s.c (.slice A' n' c') fun b=>recol col w.heap.size w4.heap.size 4 b≠0) Rl hx (M4.mono fun b _ hb=>(K.inB b).2 (by rw [L.at_ b hb.symm]; decide)) (fun b hb=>by
     have hb':recol col w.heap.size w4.heap.size 4 b≠0:=hb;unfold recol at hb';split at hb'
     ·rename_i e; exact .inr e
     ·exact .inl ((K.inB b).2 hb')) (fun k h=>h.elim (fun h=>.inl h) fun e=>.inr (by omega)) ok
    have ro1:=(R1.ob id _ hS).2;have p1:w4.heap[E.ι id]?=some (.cells arr ty fz):=(M4.block _ hlt fun e=>by rw [L.at_ _ e.symm] at hcol; cases hcol).trans q1;have hlay:lay [n,cl,xc] 2 [.a (.sym s.c)]=some [n,cl,.a (.sym s.c)]:=rfl;have hnew:Rel2 (RC (E.nm s.c (.slice A' n' c') fun b=>recol col w.heap.size w4.heap.size 4 b≠0)) [.a (.sym s.c)] [.slice A' n' c']:=⟨⟨Env.nm_D,Env.nm_sy.symm,rfl⟩,trivial⟩;have fin:RO (E.nm s.c (.slice A' n' c') fun b=>recol col w.heap.size w4.heap.size 4 b≠0) id w' (.row [n,cl,.a (.sym s.c)] ty)∧(∀ b,b≠E.ι id→w'.heap[b]?=w4.heap[b]?)∧w'.heap.size=w4.heap.size∧Kp w4 w':=by
     rcases alt with rfl | ⟨rfl,rfl,rfl,rfl⟩
     ·have hw1:(w4.setCell ⟨E.ι id,E.sh id + 0 + 2,none⟩ (.slice A' n' c')).heap[E.ι id]?=some (.cells (arr.setIfInBounds (E.sh id + 2) (.slice A' n' c')) ty fz):=by
       simp only [World.setCell,Array.getElem?_modify,↓reduceIte,p1,Option.map_some,Option.isSome_none,Bool.false_eq_true,Nat.add_zero]
      refine ⟨ro1.lay hlay hnew p1 hw1 (by simp) fun j=>?_,fun b hb=>Below.heap_setCell w4 ⟨E.ι id,E.sh id + 0 + 2,none⟩ _ b hb,by simp [World.setCell],⟨rfl,rfl,rfl⟩⟩;show (arr.setIfInBounds (E.sh id + 2) (.slice A' n' c'))[j]?=if E.sh id + 2≤j∧j < E.sh id + 2 + 1 then [Value.slice A' n' c'][j - (E.sh id + 2)]? else arr[j]?
      by_cases hj:j=E.sh id + 2
      ·subst hj
       rw [if_pos (by omega),Nat.sub_self];simp [hsz]
      ·rw [if_neg (by omega)]
       rw [Array.getElem?_setIfInBounds_ne (by omega)]
     ·refine ⟨ro1.lay hlay hnew p1 p1 rfl fun j=>?_,fun b _=>rfl,rfl,Kp.refl _⟩
      show arr[j]?=if E.sh id + 2≤j∧j < E.sh id + 2 + 1 then [Value.slice A' n' c'][j - (E.sh id + 2)]? else arr[j]?
      by_cases hj:j=E.sh id + 2
      ·subst hj
       rw [if_pos (by omega),Nat.sub_self,x1];rfl
      ·rw [if_neg (by omega)]
    obtain ⟨g1,g2,g3,g4⟩:=fin;obtain ⟨R2,m2⟩:=R1.wrote hS g1 g2 g3 (s.c + 1) g4;refine ⟨E.nm s.c (.slice A' n' c') fun b=>recol col w.heap.size w4.heap.size 4 b≠0,fun av e=>by injection e with e; rw [← e]; exact ⟨_,rfl,trivial⟩,?_,?_⟩
    ·show Rel X (Ot R τ z0) _ (s.S.set id (some (.row [n,cl,.a (.sym s.c)] ty))).get _ w'
     rw [get_put1];exact R2
    ·show Mvd E s.S.get s.c w _ (s.S.set id (some (.row [n,cl,.a (.sym s.c)] ty))).get _ w'
     rw [get_put1];refine m1.trans m2 (Nat.le_succ _) (Nat.le_refl _) fun k hk=>?_
     cases e:s.S.get k with
     | none=>exact absurd e hk
     | some o=>exact (R1.ob k o e).1
  ·cases h
 ·cases h
theorem orcT_ok (hP:X.P=Tryz.prog) (G:Good R τ):CallOK X (Ot R τ z0) orcT:=by
 refine pick_ok fun p hp args s v s' h=>?_
 rw [hP];simp only [tabO,List.mem_cons,List.not_mem_nil,or_false] at hp;rcases hp with rfl | rfl | rfl | rfl | rfl | rfl | rfl | rfl | rfl | rfl | rfl | rfl | rfl
 ·exact oFind_ok args s v s' h
 ·exact oEntry_ok args s v s' h
 ·exact oPoke_ok G args s v s' h
 ·exact oGuard_ok args s v s' h
 ·exact oStore_ok G args s v s' h
 ·exact oRestore_ok G args s v s' h
 ·exact oOff_ok G args s v s' h
 ·exact oOdd_ok G args s v s' h
 ·exact oOpen_ok G args s v s' h
 ·exact oLoad_ok G args s v s' h
 ·exact oStart_ok G args s v s' h
 ·exact oNew_ok G args s v s' h
 ·exact oNote_ok args s v s' h
end
end Go.Proofs.YtijegngfclkdaaaGreatDoor.Ev
