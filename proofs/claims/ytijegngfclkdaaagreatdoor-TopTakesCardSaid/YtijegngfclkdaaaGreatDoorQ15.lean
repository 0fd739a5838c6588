/-
  Piece 15 of the proof.
  Conditions: none.
-/
import Derived.Test.YtijegngfclkdaaaGreatDoorQ14
set_option linter.unusedVariables false
set_option linter.unusedSimpArgs false
set_option maxHeartbeats 100000000
set_option maxRecDepth 100000
namespace Go.Proofs.YtijegngfclkdaaaGreatDoor
section
open Go.RowKit
theorem sN (n:Nat) (hn:n < 4294967296) {z:Int} (hz:z=(n:Int)):bits .and .u32 z 255=((n % 256:Nat):Int):=by
 subst hz;have:=u32_and_nat n 255 hn (by decide);rw [show n &&& 255=n % 256 from Nat.and_two_pow_sub_one_eq_mod n 8] at this;exact this
theorem eM (v:Nat) (hv:v < 4294967296) (w:World):Calls Tryz.prog 28 #[.int .u32 (v:Int)] w fun e w'=>e=.returned (.tuple #[.int .i64 (Mp.ix v:Int),.int .i64 (Mp.sb v:Int),.int .i64 (Mp.bt v:Int)])/\w=w':=by
 have e1:bits .and .u32 ((v:Int) / 256) 255=((v / 256 % 256:Nat):Int):=sN (v / 256) (by omega) (by omega);have e2:bits .and .u32 (v:Int) 255=((v % 256:Nat):Int):=sN v hv rfl;have e3:wrap64 ((v / 256 % 256:Nat):Int)=((v / 256 % 256:Nat):Int):=by unfold wrap64; omega
 have e4:wrap64 ((v % 256:Nat):Int)=((v % 256:Nat):Int):=by unfold wrap64; omega
 go_enter Tryz.func28,Tryz.ntmps28
 go_wp2_with fail
 go_ret3
 exact ⟨by simp only [Mp.ix,Mp.sb,Mp.bt]; rfl,rfl⟩
def RW (w:World) (B:Nat) (A:Option Addr) (n c:Nat) (ws:List Nat):Prop:=RV w B 1 A n c (ws.map fun (x:Nat)=>Value.int .u32 (x:Int))
section
variable {w w':World} {B B' n c:Nat} {A:Option Addr} {ws:List Nat}
theorem RW.len (h:RW w B A n c ws):ws.length=n:=by have:=RV.len h; simpa using this
theorem RW.lt (h:RW w B A n c ws):n<=9223372036854775807:=Nat.le_trans (RV.le h) (RV.cap h)
theorem RW.below (h:RW w B A n c ws) (hb:Below B w w'):RW w' B A n c ws:=RV.below h hb
theorem RW.at_ (h:RW w B A n c ws) {i:Nat} (hi:i < n):∃ b o,A=some ⟨b,o,none⟩/\b < B/\w.cell? ⟨b,o + i,none⟩=some (.int .u32 ((ws.getD i 0:Nat):Int)):=by
 have hl:=h.len;obtain ⟨b,o,rfl,hb,hc⟩:=RV.at_ h (by omega);exact ⟨b,o,rfl,hb,hc i _ (by simp [List.getElem?_map,List.getD,show i < ws.length by omega])⟩
theorem RW.take (h:RW w B A n c ws) {k:Nat} (hk:k<=n):RW w B A k c (ws.take k) :=
 ⟨by rw [List.length_map,List.length_take,h.len]; omega,Nat.le_trans hk (RV.le h),RV.cap h,fun e=>⟨by have:=(RV.nil h e).1; omega,(RV.nil h e).2⟩,fun hn=>by
  obtain ⟨b,o,rfl,hb,hc⟩:=RV.at_ h (by omega);refine ⟨b,o,rfl,hb,fun j u hu=>hc j u ?_⟩;rw [List.map_take,List.getElem?_take] at hu;split at hu
  ·exact hu
  ·cases hu⟩
end
theorem qK {ws:List Nat} {k:Nat} (h:k < ws.length):Mp.aU (ws.take (k + 1))=Mp.aU (ws.take k) + Mp.bt (ws.getD k 0):=by
 unfold Mp.aU;rw [List.take_succ_eq_append_getElem h,List.map_append,List.sum_append,List.getD_eq_getElem?_getD,List.getElem?_eq_getElem h];simp
theorem size_le (ws:List Nat):Mp.aU ws<=255 * ws.length:=by
 unfold Mp.aU
 induction ws with
 | nil=>simp
 | cons a l ih =>
  simp only [List.map_cons,List.sum_cons,List.length_cons];have:Mp.bt a<=255:=by unfold Mp.bt; omega
  omega
theorem word_lt {ws:List Nat} (h:∀ x∈ws,x < 4294967296) (i:Nat):ws.getD i 0 < 4294967296:=by
 rw [List.getD_eq_getElem?_getD];cases hi:ws[i]? with
 | none=>simp
 | some x=>exact h _ (List.mem_of_getElem? hi)
theorem qz {A:Option Addr} {n c B:Nat} {ws:List Nat} (w:World) (h:RW w B A n c ws) (hn:n<=1000000) (hw:∀ x∈ws,x < 4294967296):Calls Tryz.prog 33 #[.slice A n c] w fun e w'=>e=.returned (.int .i64 (Mp.aU ws:Int))/\w=w':=by
 have hl:=h.len;go_enter Tryz.func33,Tryz.ntmps33
 go_wp2_with fail
 go_loop [3,8] (fun v i=>∃ k:Nat,k<=n/\i=.int .i64 k/\v=.int .i64 (Mp.aU (ws.take k):Int)) (fun _ i=>n - (intOf i).toNat)
 case atStart=>exact ⟨0,by omega,rfl,rfl⟩
 case round =>
  obtain ⟨k,hk,rfl,rfl⟩:=hrel
  by_cases hlt:k < n
  ·obtain ⟨b,o,rfl,eT,q0⟩:=h.at_ hlt
   have hst:=qK (ws:=ws) (k:=k) (by omega);have hsz:=size_le (ws.take k);have hwv:=word_lt hw k;have hlk:(ws.take k).length=k:=by rw [List.length_take]; omega
   rw [hlk] at hsz;unfold Mp.bt at hst;have e2:bits .and .u32 ((ws.getD k 0:Nat):Int) 255=((ws.getD k 0 % 256:Nat):Int):=sN _ hwv rfl;generalize ws.getD k 0=x at *;generalize Mp.aU (ws.take k)=cur at *;have HST:=zq hst;have hx:x % 256 < 256:=by omega
   generalize x % 256=y at *;clear hst hlk;go_wp2_with fail
   go_round
   case rel=>exact ⟨k + 1,by omega,by go_num,by rw [HST.out]; go_num⟩
   case measure=>simp [intOf] <;> omega
  ·obtain rfl:k=n:=by omega
   go_wp2_with fail
   go_ret
   exact ⟨by rw [List.take_of_length_le (by omega)]; rfl,rfl⟩
theorem im {F:Nat->Prop} {w:World} {g gv lc vc:Nat} {la:Addr} {vA:Option Addr} {xs vs:List Value} {D:Dc.aZ} (k:Nat) (h:cM 131 w F g gv (some la) lc vA vc xs vs D) (hk:k < D.l.length) (hd:∀ e∈D.l,e.dflt.length<=1000000):Calls Tryz.prog 57 #[.pointer (some ⟨g,0,none⟩),.int .i64 (k:Int)] w fun e w'=>∃ A1 n1 c1,e=.returned (.tuple #[gO (D.l.getD k Dc.aI) A1 n1 c1,.bool true])/\OB w' w.heap.size A1 n1 c1 (D.l.getD k Dc.aI).dflt/\Below w.heap.size w w':=by
 obtain ⟨b,oo,A,n,c,hA,eT,hr,hc⟩:=h.entry hk;have hmem:D.l.getD k Dc.aI∈D.l:=by
  rw [List.getD_eq_getElem?_getD,List.getElem?_eq_getElem hk];exact List.getElem_mem hk
 have hdl:=hd _ hmem;clear hmem;have hn:=hr.len;generalize he:D.l.getD k Dc.aI=e0 at *;have HE:=zq he;clear he;obtain ⟨ix,sb,nm,ty,ac,mp,st,mx,lo,hi,df⟩:=e0;unfold gO;dsimp only at hr hdl hn ⊢;injection hA with hA
 subst hA;have b0:=ae w (.cells #[.int .i64 0,.int .i64 0,.string ⟨#[]⟩,.int .i64 0,.int .i64 0,.bool false,.bool false,.int .i64 0,.int .i64 0,.int .i64 0,.slice none 0 0] 27);have LN:=zq (eY (h.below b0));have h2:=h.below b0;obtain ⟨t0,t1⟩:=h2.two;have hlc:=h.vt;have Zr:=zq hlc;have c0:=(b0.cell (p:=⟨b,oo + k * 11 + 0,none⟩) eT).trans (hc 0 _ rfl);have c1:=(b0.cell (p:=⟨b,oo + k * 11 + 1,none⟩) eT).trans (hc 1 _ rfl);have c2:=(b0.cell (p:=⟨b,oo + k * 11 + 2,none⟩) eT).trans (hc 2 _ rfl);have c3:=(b0.cell (p:=⟨b,oo + k * 11 + 3,none⟩) eT).trans (hc 3 _ rfl);have c4:=(b0.cell (p:=⟨b,oo + k * 11 + 4,none⟩) eT).trans (hc 4 _ rfl);have c5:=(b0.cell (p:=⟨b,oo + k * 11 + 5,none⟩) eT).trans (hc 5 _ rfl);have c6:=(b0.cell (p:=⟨b,oo + k * 11 + 6,none⟩) eT).trans (hc 6 _ rfl);have c7:=(b0.cell (p:=⟨b,oo + k * 11 + 7,none⟩) eT).trans (hc 7 _ rfl);have c8:=(b0.cell (p:=⟨b,oo + k * 11 + 8,none⟩) eT).trans (hc 8 _ rfl);have c9:=(b0.cell (p:=⟨b,oo + k * 11 + 9,none⟩) eT).trans (hc 9 _ rfl);have c10:=(b0.cell (p:=⟨b,oo + k * 11 + 10,none⟩) eT).trans (hc 10 _ rfl);simp only [Nat.add_zero] at c0;dsimp only at c0 c1 c2 c3 c4 c5 c6 c7 c8 c9 c10;have HD:=oe ⟨ix,sb,nm,ty,ac,mp,st,mx,lo,hi,df⟩ (w.alloc (.cells #[.int .i64 0,.int .i64 0,.string ⟨#[]⟩,.int .i64 0,.int .i64 0,.bool false,.bool false,.int .i64 0,.int .i64 0,.int .i64 0,.slice none 0 0] 27)) (hr.below b0) (by omega) b0.size;unfold gO at HD;dsimp only at HD;replace HD:=zq HD;have K2:=ao.new w 27 #[.int .i64 0,.int .i64 0,.string ⟨#[]⟩,.int .i64 0,.int .i64 0,.bool false,.bool false,.int .i64 0,.int .i64 0,.int .i64 0,.slice none 0 0];clear hc hr h h2 hlc;generalize D.l.length=m at *;go_enter Tryz.func57,Tryz.ntmps57
 go_wp2_with fail
 refine (LN.out).mono ?_;rintro e w1 ⟨rfl,rfl⟩;go_wp2_with fail
 refine (HD.out).mono ?_;rintro e w1 ⟨A1,c1',rfl,o1,b1⟩;replace K2:=K2.later b1;have E2:=K2.aA;have d1:=aa b0 b1 lq;simp only [World.size_alloc] at o1;go_wp2_with fail
 have R:=(K2.zd (.int .i64 ix) (.int .i64 sb) (.string (T nm)) (.int .i64 ty) (.int .i64 ac) (.bool mp) (.bool st) (.int .i64 mx) (.int .i64 lo) (.int .i64 hi) (.slice A1 n c1')).aA.1;have d2:=mI (g:=w.heap.size) d1 lq (.int .i64 ix) (.int .i64 sb) (.string (T nm)) (.int .i64 ty) (.int .i64 ac) (.bool mp) (.bool st) (.int .i64 mx) (.int .i64 lo) (.int .i64 hi) (.slice A1 n c1');have o2:=(o1.Ll (g:=w.heap.size) (by omega) (.int .i64 ix) (.int .i64 sb) (.string (T nm)) (.int .i64 ty) (.int .i64 ac) (.bool mp) (.bool st) (.int .i64 mx) (.int .i64 lo) (.int .i64 hi) (.slice A1 n c1')).more (base':=w.heap.size) (by omega);exact bodyPost_ret (v:=.tuple #[.agg #[.int .i64 ix,.int .i64 sb,.string (T nm),.int .i64 ty,.int .i64 ac,.bool mp,.bool st,.int .i64 mx,.int .i64 lo,.int .i64 hi,.slice A1 n c1'],.bool true]) (by simp [results,Tryz.results57,go_sem,R]) rfl ⟨A1,n,c1',rfl,o2,d2⟩
theorem ao.kj {w:World} {g:Nat} {t:TypeId} {x0 x1 x2 x3 x4 x5 x6 x7 x8 x9 lL yo:Value} (h:ao w g t #[x0,x1,x2,x3,x4,x5,x6,x7,x8,x9,lL,yo]):(w.cell? ⟨g,0,none⟩=some x0/\w.cell? ⟨g,1,none⟩=some x1/\w.cell? ⟨g,2,none⟩=some x2/\w.cell? ⟨g,3,none⟩=some x3/\w.cell? ⟨g,4,none⟩=some x4/\w.cell? ⟨g,5,none⟩=some x5/\w.cell? ⟨g,6,none⟩=some x6/\w.cell? ⟨g,7,none⟩=some x7/\w.cell? ⟨g,8,none⟩=some x8/\w.cell? ⟨g,9,none⟩=some x9/\w.cell? ⟨g,10,none⟩=some lL/\w.cell? ⟨g,11,none⟩=some yo)/\(w.frozen? ⟨g,0,none⟩=false/\w.frozen? ⟨g,1,none⟩=false/\w.frozen? ⟨g,2,none⟩=false/\w.frozen? ⟨g,3,none⟩=false/\w.frozen? ⟨g,4,none⟩=false/\w.frozen? ⟨g,5,none⟩=false/\w.frozen? ⟨g,6,none⟩=false/\w.frozen? ⟨g,7,none⟩=false/\w.frozen? ⟨g,8,none⟩=false/\w.frozen? ⟨g,9,none⟩=false/\w.frozen? ⟨g,10,none⟩=false/\w.frozen? ⟨g,11,none⟩=false):=⟨⟨h.cell 0,h.cell 1,h.cell 2,h.cell 3,h.cell 4,h.cell 5,h.cell 6,h.cell 7,h.cell 8,h.cell 9,h.cell 10,h.cell 11⟩,h.frozen 0,h.frozen 1,h.frozen 2,h.frozen 3,h.frozen 4,h.frozen 5,h.frozen 6,h.frozen 7,h.frozen 8,h.frozen 9,h.frozen 10,h.frozen 11⟩
theorem ao.zE {w:World} {g:Nat} {t:TypeId} {x0 x1 x2 x3 x4 x5 x6 x7 x8 x9 lL yo:Value} (h:ao w g t #[x0,x1,x2,x3,x4,x5,x6,x7,x8,x9,lL,yo]) (y0 y1 y2 y3 y4 y5 y6 y7 y8 y9 nP DH:Value):ao (World.setCell (World.setCell (World.setCell (World.setCell (World.setCell (World.setCell (World.setCell (World.setCell (World.setCell (World.setCell (World.setCell (World.setCell w ⟨g,0,none⟩ y0) ⟨g,1,none⟩ y1) ⟨g,2,none⟩ y2) ⟨g,3,none⟩ y3) ⟨g,4,none⟩ y4) ⟨g,5,none⟩ y5) ⟨g,6,none⟩ y6) ⟨g,7,none⟩ y7) ⟨g,8,none⟩ y8) ⟨g,9,none⟩ y9) ⟨g,10,none⟩ nP) ⟨g,11,none⟩ DH) g t #[y0,y1,y2,y3,y4,y5,y6,y7,y8,y9,nP,DH]:=by
 have h0:ao _ g t #[y0,x1,x2,x3,x4,x5,x6,x7,x8,x9,lL,yo]:=h.aJ 0 y0;have h1:ao _ g t #[y0,y1,x2,x3,x4,x5,x6,x7,x8,x9,lL,yo]:=h0.aJ 1 y1;have h2:ao _ g t #[y0,y1,y2,x3,x4,x5,x6,x7,x8,x9,lL,yo]:=h1.aJ 2 y2;have h3:ao _ g t #[y0,y1,y2,y3,x4,x5,x6,x7,x8,x9,lL,yo]:=h2.aJ 3 y3;have h4:ao _ g t #[y0,y1,y2,y3,y4,x5,x6,x7,x8,x9,lL,yo]:=h3.aJ 4 y4;have h5:ao _ g t #[y0,y1,y2,y3,y4,y5,x6,x7,x8,x9,lL,yo]:=h4.aJ 5 y5;have h6:ao _ g t #[y0,y1,y2,y3,y4,y5,y6,x7,x8,x9,lL,yo]:=h5.aJ 6 y6;have h7:ao _ g t #[y0,y1,y2,y3,y4,y5,y6,y7,x8,x9,lL,yo]:=h6.aJ 7 y7;have h8:ao _ g t #[y0,y1,y2,y3,y4,y5,y6,y7,y8,x9,lL,yo]:=h7.aJ 8 y8;have h9:ao _ g t #[y0,y1,y2,y3,y4,y5,y6,y7,y8,y9,lL,yo]:=h8.aJ 9 y9;have h10:ao _ g t #[y0,y1,y2,y3,y4,y5,y6,y7,y8,y9,nP,yo]:=h9.aJ 10 nP;have h11:ao _ g t #[y0,y1,y2,y3,y4,y5,y6,y7,y8,y9,nP,DH]:=h10.aJ 11 DH;exact h11
theorem mF {B:Nat} {a w:World} {g:Nat} (h:Below B a w) (hg:B<=g) (y0 y1 y2 y3 y4 y5 y6 y7 y8 y9 nP DH:Value):Below B a (World.setCell (World.setCell (World.setCell (World.setCell (World.setCell (World.setCell (World.setCell (World.setCell (World.setCell (World.setCell (World.setCell (World.setCell w ⟨g,0,none⟩ y0) ⟨g,1,none⟩ y1) ⟨g,2,none⟩ y2) ⟨g,3,none⟩ y3) ⟨g,4,none⟩ y4) ⟨g,5,none⟩ y5) ⟨g,6,none⟩ y6) ⟨g,7,none⟩ y7) ⟨g,8,none⟩ y8) ⟨g,9,none⟩ y9) ⟨g,10,none⟩ nP) ⟨g,11,none⟩ DH):=((((((((((((h.setCell (p:=⟨g,0,none⟩) hg y0).setCell (p:=⟨g,1,none⟩) hg y1).setCell (p:=⟨g,2,none⟩) hg y2).setCell (p:=⟨g,3,none⟩) hg y3).setCell (p:=⟨g,4,none⟩) hg y4).setCell (p:=⟨g,5,none⟩) hg y5).setCell (p:=⟨g,6,none⟩) hg y6).setCell (p:=⟨g,7,none⟩) hg y7).setCell (p:=⟨g,8,none⟩) hg y8).setCell (p:=⟨g,9,none⟩) hg y9).setCell (p:=⟨g,10,none⟩) hg nP).setCell (p:=⟨g,11,none⟩) hg DH)
theorem OB.QQ {w:World} {base g n c:Nat} {A:Option Addr} {l:List UInt8} (h:OB w base A n c l) (hg:g < base) (y0 y1 y2 y3 y4 y5 y6 y7 y8 y9 nP DH:Value):OB (World.setCell (World.setCell (World.setCell (World.setCell (World.setCell (World.setCell (World.setCell (World.setCell (World.setCell (World.setCell (World.setCell (World.setCell w ⟨g,0,none⟩ y0) ⟨g,1,none⟩ y1) ⟨g,2,none⟩ y2) ⟨g,3,none⟩ y3) ⟨g,4,none⟩ y4) ⟨g,5,none⟩ y5) ⟨g,6,none⟩ y6) ⟨g,7,none⟩ y7) ⟨g,8,none⟩ y8) ⟨g,9,none⟩ y9) ⟨g,10,none⟩ nP) ⟨g,11,none⟩ DH) base A n c l:=((((((((((((h.cR hg 0 y0).cR hg 1 y1).cR hg 2 y2).cR hg 3 y3).cR hg 4 y4).cR hg 5 y5).cR hg 6 y6).cR hg 7 y7).cR hg 8 y8).cR hg 9 y9).cR hg 10 nP).cR hg 11 DH)
def oB (D:Dc.aZ) (v:Nat) (w:World) (e:Ending) (w':World):Prop:=match Dc.bh D.l (Mp.ix v) (Mp.sb v) with
 | none=>e=.returned (.tuple #[.agg #[.int .i64 0,.int .i64 0,.string ⟨#[]⟩,.int .i64 0,.int .i64 0,.bool false,.bool false,.int .i64 0,.int .i64 0,.int .i64 0,.slice none 0 0,.int .i64 0],.int .u32 (if Dc.jb D.l (Mp.ix v)=true then 101253137 else 100794368)])/\Below w.heap.size w w'
 | some k=>∃ A n c,e=.returned (.tuple #[.agg #[.int .i64 (D.l.getD k Dc.aI).index,.int .i64 (D.l.getD k Dc.aI).sub,.string (T (D.l.getD k Dc.aI).name),.int .i64 (D.l.getD k Dc.aI).type,.int .i64 (D.l.getD k Dc.aI).access,.bool (D.l.getD k Dc.aI).map,.bool (D.l.getD k Dc.aI).store,.int .i64 (D.l.getD k Dc.aI).max,.int .i64 (D.l.getD k Dc.aI).low,.int .i64 (D.l.getD k Dc.aI).high,.slice A n c,.int .i64 (Mp.bt v:Int)],.int .u32 0])/\OB w' w.heap.size A n c (D.l.getD k Dc.aI).dflt/\Below w.heap.size w w'
theorem Jf {D:Dc.aZ} {v:Nat} {w w':World} {code:Int} (hf:Dc.bh D.l (Mp.ix v) (Mp.sb v)=none) (hc:(if Dc.jb D.l (Mp.ix v)=true then (101253137:Int) else 100794368)=code) (hb:Below w.heap.size w w') :
  oB D v w (.returned (.tuple #[.agg #[.int .i64 0,.int .i64 0,.string ⟨#[]⟩,.int .i64 0,.int .i64 0,.bool false,.bool false,.int .i64 0,.int .i64 0,.int .i64 0,.slice none 0 0,.int .i64 0],.int .u32 code])) w':=by
 subst hc;unfold oB;rw [hf];exact ⟨rfl,hb⟩
theorem Fc {D:Dc.aZ} {v k:Nat} {w w':World} {ix sb ty ac mx lo hi:Int} {nm df:List UInt8} {mp st:Bool} {A:Option Addr} {n c:Nat} (hf:Dc.bh D.l (Mp.ix v) (Mp.sb v)=some k) (he:D.l.getD k Dc.aI=⟨ix,sb,nm,ty,ac,mp,st,mx,lo,hi,df⟩) (ho:OB w' w.heap.size A n c df) (hb:Below w.heap.size w w') :
  oB D v w (.returned (.tuple #[.agg #[.int .i64 ix,.int .i64 sb,.string (T nm),.int .i64 ty,.int .i64 ac,.bool mp,.bool st,.int .i64 mx,.int .i64 lo,.int .i64 hi,.slice A n c,.int .i64 (Mp.bt v:Int)],.int .u32 0])) w':=by
 unfold oB;rw [hf];dsimp only;rw [he];exact ⟨A,n,c,rfl,ho,hb⟩
theorem vu {F:Nat->Prop} {w:World} {g gv lc vc:Nat} {la:Addr} {vA:Option Addr} {xs vs:List Value} {D:Dc.aZ} (v:Nat) (hv:v < 4294967296) (h:cM 131 w F g gv (some la) lc vA vc xs vs D) (hd:∀ e∈D.l,e.dflt.length<=1000000):Calls Tryz.prog 128 #[.pointer (some ⟨g,0,none⟩),.int .u32 (v:Int)] w (oB D v w):=by
 have SP:=zq (fun w=>eM v hv w);have b0:=ae w (.cells #[.int .i64 0,.int .i64 0,.string ⟨#[]⟩,.int .i64 0,.int .i64 0,.bool false,.bool false,.int .i64 0,.int .i64 0,.int .i64 0,.slice none 0 0,.int .i64 0] 206);have K0:=ao.new w 206 #[.int .i64 0,.int .i64 0,.string ⟨#[]⟩,.int .i64 0,.int .i64 0,.bool false,.bool false,.int .i64 0,.int .i64 0,.int .i64 0,.slice none 0 0,.int .i64 0];have FD:=ib (Mp.ix v:Int) (Mp.sb v:Int) (h.below b0);cases hf:Dc.bh D.l (Mp.ix v) (Mp.sb v) with
 | none =>
  rw [j4 hf] at FD;dsimp only at FD;replace FD:=zq FD;have hm:Dc.pK D.l false (Mp.ix v) (Mp.sb v) []=if Dc.jb D.l (Mp.ix v)=true then 101253137 else 100794368:=by unfold Dc.pK; rw [hf]
  have MY:=fun (w1:World) (hb:Below w.heap.size w w1)=>Ez (Mp.ix v:Int) (Mp.sb v:Int) (h.below hb) (RB.none_ (w:=w1) (B:=0)) (Nat.zero_le _)
  rw [hm] at MY;generalize hcd:(if Dc.jb D.l (Mp.ix v)=true then (101253137:Int) else 100794368)=code at *;have Zs:=zq hcd; have HF:=zq hf;replace MY:=zq MY;clear hm hcd hf;go_enter Tryz.func128,Tryz.ntmps128
  go_wp2_with fail
  refine (SP.out _).mono ?_;rintro e w1 ⟨rfl,rfl⟩;go_wp2_with fail
  refine (FD.out).mono ?_;rintro e w1 ⟨rfl,b1⟩;have d1:=aa b0 b1 lq;go_wp2_with fail
  refine (MY.out _ d1).mono ?_;rintro e w2 ⟨rfl,b2⟩;have K2:=(K0.later b1).later b2;have d2:=aa d1 b2 lq;have E2:=K2.kj;go_wp2_with fail
  have R:=(K2.zE (.int .i64 0) (.int .i64 0) (.string ⟨#[]⟩) (.int .i64 0) (.int .i64 0) (.bool false) (.bool false) (.int .i64 0) (.int .i64 0) (.int .i64 0) (.slice none 0 0) (.int .i64 0)).kj.1;have d3:=mF (g:=w.heap.size) d2 lq (.int .i64 0) (.int .i64 0) (.string ⟨#[]⟩) (.int .i64 0) (.int .i64 0) (.bool false) (.bool false) (.int .i64 0) (.int .i64 0) (.int .i64 0) (.slice none 0 0) (.int .i64 0);exact bodyPost_ret (v:=.tuple #[.agg #[.int .i64 0,.int .i64 0,.string ⟨#[]⟩,.int .i64 0,.int .i64 0,.bool false,.bool false,.int .i64 0,.int .i64 0,.int .i64 0,.slice none 0 0,.int .i64 0],.int .u32 code]) (by simp [results,Tryz.results128,go_sem,R]) rfl (Jf HF.out Zs.out d3)
 | some k =>
  rw [kC hf] at FD;dsimp only at FD;have hk:=(Dc.bS hf).2.1;have HF:=zq hf;have EN:=fun (w1:World) (hb:Below w.heap.size w w1)=>im k (h.below hb) hk hd
  generalize he:D.l.getD k Dc.aI=e0 at *;have HE:=zq he;obtain ⟨ix,sb,nm,ty,ac,mp,st,mx,lo,hi,df⟩:=e0;unfold gO at EN;dsimp only at EN;replace FD:=zq FD; replace EN:=zq EN;clear he hf;go_enter Tryz.func128,Tryz.ntmps128
  go_wp2_with fail
  refine (SP.out _).mono ?_;rintro e w1 ⟨rfl,rfl⟩;go_wp2_with fail
  refine (FD.out).mono ?_;rintro e w1 ⟨rfl,b1⟩;have d1:=aa b0 b1 lq;go_wp2_with fail
  refine (EN.out _ d1).mono ?_;rintro e w2 ⟨A1,n1,c1,rfl,o2,b2⟩;have d2:=aa d1 b2 lq;have b3:=ae w2 (.cells #[.int .i64 ix,.int .i64 sb,.string (T nm),.int .i64 ty,.int .i64 ac,.bool mp,.bool st,.int .i64 mx,.int .i64 lo,.int .i64 hi,.slice A1 n1 c1] 27);have K3:=((K0.later b1).later b2).later b3;have d3:=aa d2 b3 lq;have o3:=o2.below b3;have E3:=K3.kj;have KX:=zq (K0.later b1).lt;clear b3 b2 b1 o2;go_wp2_with fail
  have R:=(K3.zE (.int .i64 ix) (.int .i64 sb) (.string (T nm)) (.int .i64 ty) (.int .i64 ac) (.bool mp) (.bool st) (.int .i64 mx) (.int .i64 lo) (.int .i64 hi) (.slice A1 n1 c1) (.int .i64 (Mp.bt v:Int))).kj.1;have d4:=mF (g:=w.heap.size) d3 lq (.int .i64 ix) (.int .i64 sb) (.string (T nm)) (.int .i64 ty) (.int .i64 ac) (.bool mp) (.bool st) (.int .i64 mx) (.int .i64 lo) (.int .i64 hi) (.slice A1 n1 c1) (.int .i64 (Mp.bt v:Int));have o4:=(o3.QQ (g:=w.heap.size) KX.out (.int .i64 ix) (.int .i64 sb) (.string (T nm)) (.int .i64 ty) (.int .i64 ac) (.bool mp) (.bool st) (.int .i64 mx) (.int .i64 lo) (.int .i64 hi) (.slice A1 n1 c1) (.int .i64 (Mp.bt v:Int))).more (base':=w.heap.size) (Nat.le_of_lt KX.out);exact bodyPost_ret (v:=.tuple #[.agg #[.int .i64 ix,.int .i64 sb,.string (T nm),.int .i64 ty,.int .i64 ac,.bool mp,.bool st,.int .i64 mx,.int .i64 lo,.int .i64 hi,.slice A1 n1 c1,.int .i64 (Mp.bt v:Int)],.int .u32 0]) (by simp [results,Tryz.results128,go_sem,R]) rfl (Fc HF.out HE.out o4 d4)
def EH (e:aD.En) (A:Option Addr) (n c:Nat) (b:Int):Value:=.agg (#[.int .i64 e.index,.int .i64 e.sub,.string (T e.name),.int .i64 e.type,.int .i64 e.access,.bool e.map,.bool e.store,.int .i64 e.max,.int .i64 e.low,.int .i64 e.high,.slice A n c,.int .i64 b])
theorem Ij (e:aD.En) (A:Option Addr) (n c:Nat) (b:Int) (w:World):Calls Tryz.prog 129 #[EH e A n c b] w fun x w'=>x=.returned (.int .u32 (aD.kQ e))/\Below w.heap.size w w':=by
 obtain ⟨ix,sb,nm,ty,ac,mp,st,mx,lo,hi,df⟩:=e;unfold EH;dsimp only;have CL:=fun w=>sI ⟨ix,sb,nm,ty,ac,mp,st,mx,lo,hi,df⟩ A n c w
 unfold gO at CL;dsimp only at CL;replace CL:=zq CL;have b0:=ae w (.cells #[.int .i64 ix,.int .i64 sb,.string (T nm),.int .i64 ty,.int .i64 ac,.bool mp,.bool st,.int .i64 mx,.int .i64 lo,.int .i64 hi,.slice A n c,.int .i64 b] 206);generalize aD.kQ (⟨ix,sb,nm,ty,ac,mp,st,mx,lo,hi,df⟩:aD.En)=r at *;go_enter Tryz.func129,Tryz.ntmps129
 go_wp2_with fail
 refine (CL.out _).mono ?_;rintro e w1 ⟨rfl,b1⟩;have d1:=aa b0 b1 lq;go_wp2_with fail
 go_ret
 exact ⟨rfl,d1⟩
theorem EG (e:aD.En) (A:Option Addr) (n c:Nat) (b:Int) (w:World):Calls Tryz.prog 130 #[EH e A n c b] w fun x w'=>x=.returned (.int .u32 (aD.ff e))/\Below w.heap.size w w':=by
 obtain ⟨ix,sb,nm,ty,ac,mp,st,mx,lo,hi,df⟩:=e;unfold EH;dsimp only;have CL:=fun w=>ir ⟨ix,sb,nm,ty,ac,mp,st,mx,lo,hi,df⟩ A n c w
 unfold gO at CL;dsimp only at CL;replace CL:=zq CL;have b0:=ae w (.cells #[.int .i64 ix,.int .i64 sb,.string (T nm),.int .i64 ty,.int .i64 ac,.bool mp,.bool st,.int .i64 mx,.int .i64 lo,.int .i64 hi,.slice A n c,.int .i64 b] 206);generalize aD.ff (⟨ix,sb,nm,ty,ac,mp,st,mx,lo,hi,df⟩:aD.En)=r at *;go_enter Tryz.func130,Tryz.ntmps130
 go_wp2_with fail
 refine (CL.out _).mono ?_;rintro e w1 ⟨rfl,b1⟩;have d1:=aa b0 b1 lq;go_wp2_with fail
 go_ret
 exact ⟨rfl,d1⟩
theorem Kk {F:Nat->Prop} {w:World} {g gv lc vc:Nat} {la:Addr} {vA:Option Addr} {xs vs:List Value} {D:Dc.aZ} (v:Nat) (hv:v < 4294967296) (cm:Bool) (h:cM 131 w F g gv (some la) lc vA vc xs vs D) (hd:∀ e∈D.l,e.dflt.length<=1000000):Calls Tryz.prog 84 #[.pointer (some ⟨g,0,none⟩),.int .u32 (v:Int),.bool cm] w fun e w'=>e=.returned (.int .u32 (Mp.jH D.l cm v))/\Below w.heap.size w w':=by
 have FN:=vu v hv h hd;unfold oB at FN;cases hf:Dc.bh D.l (Mp.ix v) (Mp.sb v) with
 | none =>
  have ho:Mp.jH D.l cm v=if Dc.jb D.l (Mp.ix v)=true then 101253137 else 100794368:=by unfold Mp.jH; rw [hf]
  rw [hf] at FN;dsimp only at FN;rw [ho];clear ho hf;cases hi:Dc.jb D.l (Mp.ix v)
  all_goals
   rw [hi] at FN;simp only [if_true,Bool.false_eq_true,if_false] at FN;simp only [if_true,Bool.false_eq_true,if_false];replace FN:=zq FN;clear hi;go_enter Tryz.func84,Tryz.ntmps84
   go_wp2_with fail
   refine (FN.out).mono ?_;rintro e w1 ⟨rfl,b1⟩;go_wp2_with fail
   go_ret
   exact ⟨rfl,aa b1 (ae _ _) lq⟩
 | some k =>
  have ho:Mp.jH D.l cm v=if (D.l.getD k Dc.aI).map=false\/((Ty.kd (D.l.getD k Dc.aI).type).bits:Int)≠(Mp.bt v:Int)\/(if cm=true then aD.ff (D.l.getD k Dc.aI) else aD.kQ (D.l.getD k Dc.aI))≠0 then 100925505 else 0:=by unfold Mp.jH; rw [hf]
  rw [hf] at FN;dsimp only at FN;rw [ho];clear ho hf;generalize D.l.getD k Dc.aI=e0 at *;obtain ⟨ix,sb,nm,ty,ac,mp,st,mx,lo,hi,df⟩:=e0;dsimp only at FN ⊢;have TB:=zq (fun w=>qm ty w);have OR:=fun A n c w=>Ij ⟨ix,sb,nm,ty,ac,mp,st,mx,lo,hi,df⟩ A n c (Mp.bt v) w
  have OW:=fun A n c w=>EG ⟨ix,sb,nm,ty,ac,mp,st,mx,lo,hi,df⟩ A n c (Mp.bt v) w
  unfold EH at OR OW;dsimp only at OR OW;generalize aD.kQ (⟨ix,sb,nm,ty,ac,mp,st,mx,lo,hi,df⟩:aD.En)=rr at *;generalize aD.ff (⟨ix,sb,nm,ty,ac,mp,st,mx,lo,hi,df⟩:aD.En)=Vj at *;generalize ((Ty.kd ty).bits:Int)=kb at *;generalize (Mp.bt v:Int)=vb at *;replace OR:=zq OR; replace OW:=zq OW; replace FN:=zq FN;generalize hres:(if mp=false\/kb≠vb\/(if cm=true then Vj else rr)≠0 then (100925505:Int) else 0)=res;have RS:=zq hres;clear hres;go_enter Tryz.func84,Tryz.ntmps84
  go_wp2_with fail
  refine (FN.out).mono ?_;rintro e w1 ⟨A,n,c,rfl,o1,b1⟩;have b2:=ae w1 (.cells #[.int .i64 ix,.int .i64 sb,.string (T nm),.int .i64 ty,.int .i64 ac,.bool mp,.bool st,.int .i64 mx,.int .i64 lo,.int .i64 hi,.slice A n c,.int .i64 vb] 206);have K:=ao.new w1 206 #[.int .i64 ix,.int .i64 sb,.string (T nm),.int .i64 ty,.int .i64 ac,.bool mp,.bool st,.int .i64 mx,.int .i64 lo,.int .i64 hi,.slice A n c,.int .i64 vb];have T:=K.kj;have c3:=cell_regrown T.1.2.2.2.1;have c5:=cell_regrown T.1.2.2.2.2.2.1;have c11:=cell_regrown T.1.2.2.2.2.2.2.2.2.2.2.2;have d2:=aa b1 b2 lq;clear b1 b2 o1;cases cm
  ·cases mp
   ·go_wp2_with fail
    refine aN (by kernel_rfl) ?_;refine ai (by kernel_rfl) 8 (af _) [0,1,2,3,4,5,9,6,10,7] rfl (by kernel_rfl) ?_;simp only [aj,nth]
    repeat (go_big_quiet_step (fail))
    refine wpQuiet_nil ?_;refine aH 8 7 rfl (by kernel_rfl) (by decide) ?_;simp only [nth];go_wp2_with fail
    have D3:=zq (aa d2 (af _) lq);refine ax (af _) ?_;refine ai (by kernel_rfl) 3 (Below.refl _ _) [11,12,13,14] rfl (by kernel_rfl) ?_;simp only [aj,nth]
    repeat (go_big_quiet_step (fail))
    refine wpQuiet_nil ?_;refine aH 15 2 rfl (by kernel_rfl) (by decide) ?_;simp only [nth];go_wp2_with fail
    refine ax (Below.refl _ _) ?_;refine ai (by kernel_rfl) 0 (Below.refl _ _) [16,17] rfl (by kernel_rfl) ?_;simp only [aj,nth]
    repeat (go_big_quiet_step (fail))
    refine wpQuiet_nil ?_;refine aK (by kernel_rfl) ?_;go_wp2_with fail
    go_ret
    exact ⟨by rw [<- RS.out,if_pos (by simp)]; rfl,D3.out⟩
   ·go_wp2_with fail
    refine aN (by kernel_rfl) ?_;refine ai (by kernel_rfl) 8 (af _) [0,1,2,3,4,5,9,6,10,7] rfl (by kernel_rfl) ?_;simp only [aj,nth]
    repeat (go_big_quiet_step (fail))
    refine wpQuiet_nil ?_;refine aH 8 7 rfl (by kernel_rfl) (by decide) ?_;simp only [nth];go_wp2_with fail
    refine (TB.out _).mono ?_;rintro e w2 ⟨rfl,b3⟩;have d3:=aa (af _) b3 lq;have D3:=zq (aa d2 d3 lq)
    by_cases hk:kb=vb
    ·subst hk
     go_wp2_with fail
     refine ax d3 ?_;refine ai (by kernel_rfl) 3 (Below.refl _ _) [11,12,13,14] rfl (by kernel_rfl) ?_;simp only [aj,nth]
     repeat (go_big_quiet_step (fail))
     refine wpQuiet_nil ?_;refine aH 15 2 rfl (by kernel_rfl) (by decide) ?_;simp only [nth];go_wp2_with fail
     refine (OR.out _ _ _ _).mono ?_;rintro e w3 ⟨rfl,b4⟩;have D4:=zq (aa D3.out b4 lq)
     by_cases hr:rr=0
     ·subst hr
      go_wp2_with fail
      refine ax b4 ?_;refine ai (by kernel_rfl) 0 (Below.refl _ _) [16,17] rfl (by kernel_rfl) ?_;simp only [aj,nth]
      repeat (go_big_quiet_step (fail))
      refine wpQuiet_nil ?_;refine aK (by kernel_rfl) ?_;go_wp2_with fail
      go_ret
      exact ⟨by rw [<- RS.out,if_neg (by simp)]; rfl,D4.out⟩
     ·have hr2:(rr == 0)=false:=by simpa using hr
      have HR:=zq hr;clear hr;go_wp2_with fail
      refine ax b4 ?_;refine ai (by kernel_rfl) 0 (Below.refl _ _) [16,17] rfl (by kernel_rfl) ?_;simp only [aj,nth]
      repeat (go_big_quiet_step (fail))
      refine wpQuiet_nil ?_;refine aK (by kernel_rfl) ?_;go_wp2_with fail
      go_ret
      exact ⟨by rw [<- RS.out,if_pos (by simp [HR.out])]; rfl,D4.out⟩
    ·have hk2:(kb == vb)=false:=by simpa using hk
     have hk3:(kb != vb)=true:=by simpa using hk
     have HK:=zq hk;clear hk;go_wp2_with fail
     refine ax d3 ?_;refine ai (by kernel_rfl) 3 (Below.refl _ _) [11,12,13,14] rfl (by kernel_rfl) ?_;simp only [aj,nth]
     repeat (go_big_quiet_step (fail))
     refine wpQuiet_nil ?_;refine aH 15 2 rfl (by kernel_rfl) (by decide) ?_;simp only [nth];go_wp2_with fail
     refine ax (Below.refl _ _) ?_;refine ai (by kernel_rfl) 0 (Below.refl _ _) [16,17] rfl (by kernel_rfl) ?_;simp only [aj,nth]
     repeat (go_big_quiet_step (fail))
     refine wpQuiet_nil ?_;refine aK (by kernel_rfl) ?_;go_wp2_with fail
     go_ret
     exact ⟨by rw [<- RS.out,if_pos (by simp [HK.out])]; rfl,D3.out⟩
  ·cases mp
   ·go_wp2_with fail
    refine aN (by kernel_rfl) ?_;refine ai (by kernel_rfl) 8 (af _) [0,1,2,3,4,5,9,6,10,7] rfl (by kernel_rfl) ?_;simp only [aj,nth]
    repeat (go_big_quiet_step (fail))
    refine wpQuiet_nil ?_;refine aH 8 7 rfl (by kernel_rfl) (by decide) ?_;simp only [nth];go_wp2_with fail
    have D3:=zq (aa d2 (af _) lq);refine ax (af _) ?_;refine ai (by kernel_rfl) 3 (Below.refl _ _) [11,12,13,14] rfl (by kernel_rfl) ?_;simp only [aj,nth]
    repeat (go_big_quiet_step (fail))
    refine wpQuiet_nil ?_;refine aH 15 2 rfl (by kernel_rfl) (by decide) ?_;simp only [nth];go_wp2_with fail
    refine ax (Below.refl _ _) ?_;refine ai (by kernel_rfl) 0 (Below.refl _ _) [16,17] rfl (by kernel_rfl) ?_;simp only [aj,nth]
    repeat (go_big_quiet_step (fail))
    refine wpQuiet_nil ?_;refine aK (by kernel_rfl) ?_;go_wp2_with fail
    go_ret
    exact ⟨by rw [<- RS.out,if_pos (by simp)]; rfl,D3.out⟩
   ·go_wp2_with fail
    refine aN (by kernel_rfl) ?_;refine ai (by kernel_rfl) 8 (af _) [0,1,2,3,4,5,9,6,10,7] rfl (by kernel_rfl) ?_;simp only [aj,nth]
    repeat (go_big_quiet_step (fail))
    refine wpQuiet_nil ?_;refine aH 8 7 rfl (by kernel_rfl) (by decide) ?_;simp only [nth];go_wp2_with fail
    refine (TB.out _).mono ?_;rintro e w2 ⟨rfl,b3⟩;have d3:=aa (af _) b3 lq;have D3:=zq (aa d2 d3 lq)
    by_cases hk:kb=vb
    ·subst hk
     go_wp2_with fail
     refine ax d3 ?_;refine ai (by kernel_rfl) 3 (Below.refl _ _) [11,12,13,14] rfl (by kernel_rfl) ?_;simp only [aj,nth]
     repeat (go_big_quiet_step (fail))
     refine wpQuiet_nil ?_;refine aH 15 2 rfl (by kernel_rfl) (by decide) ?_;simp only [nth];go_wp2_with fail
     refine (OW.out _ _ _ _).mono ?_;rintro e w3 ⟨rfl,b4⟩;have D4:=zq (aa D3.out b4 lq)
     by_cases hr:Vj=0
     ·subst hr
      go_wp2_with fail
      refine ax b4 ?_;refine ai (by kernel_rfl) 0 (Below.refl _ _) [16,17] rfl (by kernel_rfl) ?_;simp only [aj,nth]
      repeat (go_big_quiet_step (fail))
      refine wpQuiet_nil ?_;refine aK (by kernel_rfl) ?_;go_wp2_with fail
      go_ret
      exact ⟨by rw [<- RS.out,if_neg (by simp)]; rfl,D4.out⟩
     ·have hr2:(Vj == 0)=false:=by simpa using hr
      have HR:=zq hr;clear hr;go_wp2_with fail
      refine ax b4 ?_;refine ai (by kernel_rfl) 0 (Below.refl _ _) [16,17] rfl (by kernel_rfl) ?_;simp only [aj,nth]
      repeat (go_big_quiet_step (fail))
      refine wpQuiet_nil ?_;refine aK (by kernel_rfl) ?_;go_wp2_with fail
      go_ret
      exact ⟨by rw [<- RS.out,if_pos (by simp [HR.out])]; rfl,D4.out⟩
    ·have hk2:(kb == vb)=false:=by simpa using hk
     have hk3:(kb != vb)=true:=by simpa using hk
     have HK:=zq hk;clear hk;go_wp2_with fail
     refine ax d3 ?_;refine ai (by kernel_rfl) 3 (Below.refl _ _) [11,12,13,14] rfl (by kernel_rfl) ?_;simp only [aj,nth]
     repeat (go_big_quiet_step (fail))
     refine wpQuiet_nil ?_;refine aH 15 2 rfl (by kernel_rfl) (by decide) ?_;simp only [nth];go_wp2_with fail
     refine ax (Below.refl _ _) ?_;refine ai (by kernel_rfl) 0 (Below.refl _ _) [16,17] rfl (by kernel_rfl) ?_;simp only [aj,nth]
     repeat (go_big_quiet_step (fail))
     refine wpQuiet_nil ?_;refine aK (by kernel_rfl) ?_;go_wp2_with fail
     go_ret
     exact ⟨by rw [<- RS.out,if_pos (by simp [HK.out])]; rfl,D3.out⟩
theorem tU {l:List aD.En} {cm:Bool} {all:List Nat} {n k:Nat} (hk:k < n):Mp.iG l cm all (n - k) k=if Mp.jH l cm (all.getD k 0)≠0 then Mp.jH l cm (all.getD k 0) else if 64 < Mp.aU (all.take (k + 1)) then 100925506 else Mp.iG l cm all (n - (k + 1)) (k + 1):=by
 obtain ⟨m,hm⟩:∃ m,n - k=m + 1:=⟨n - k - 1,by omega⟩;have h2:n - (k + 1)=m:=by omega
 rw [hm,h2];rfl
theorem kA {F:Nat->Prop} {w:World} {g gv lc vc:Nat} {la:Addr} {vA:Option Addr} {xs vs:List Value} {D:Dc.aZ} {A:Option Addr} {n c B:Nat} {ws:List Nat} (cm:Bool) (h:cM 131 w F g gv (some la) lc vA vc xs vs D) (hd:∀ e∈D.l,e.dflt.length<=1000000) (hw:RW w B A n c ws) (hwl:∀ x∈ws,x < 4294967296) (hB:B<=w.heap.size):Calls Tryz.prog 55 #[.pointer (some ⟨g,0,none⟩),.slice A n c,.bool cm] w fun e w'=>e=.returned (.int .u32 (Mp.ar D.l cm ws))/\Below w.heap.size w w':=by
 have hl:=hw.len;have hn9:=hw.lt;obtain ⟨hnc,Xo⟩:n<=c/\c<=9223372036854775807:=⟨RV.le hw,RV.cap hw⟩;have hs:Mp.ar D.l cm ws=if 8 < n then 100925506 else Mp.iG D.l cm ws n 0:=by unfold Mp.ar; rw [hl]
 rw [hs]
 by_cases h8:8 < n
 ·simp only [h8,if_true]
  go_enter Tryz.func55,Tryz.ntmps55
  go_wp2_with fail
  go_ret
  exact ⟨rfl,Below.refl _ _⟩
 ·simp only [h8,if_false]
  clear hs;generalize hg:Mp.iG D.l cm ws n 0=r;have HG:=zq hg;clear hg;go_enter Tryz.func55,Tryz.ntmps55
  go_wp2_with fail
  go_loopw [19] (fun i wr=>∃ k:Nat,k<=n/\i=.int .i64 k/\Below w.heap.size w wr/\Mp.iG D.l cm ws (n - k) k=r) (fun i _=>n - (intOf i).toNat)
  case atStart=>exact ⟨0,by omega,rfl,Below.refl _ _,HG.out⟩
  case round =>
   obtain ⟨k,hk,rfl,hbel,hrr⟩:=hrel
   by_cases hlt:k < n
   ·obtain ⟨b,o,rfl,eT,q0⟩:=(hw.below (hbel.mono hB)).at_ hlt
    have ON:=Kk (ws.getD k 0) (word_lt hwl k) cm (h.below hbel) hd;have hwT:=(hw.below (hbel.mono hB)).take (k:=k + 1) (by omega);rw [tU hlt] at hrr;have SZ:=fun (w1:World) (hb:Below wr.heap.size wr w1)=>qz w1 (hwT.below (hb.mono (Nat.le_trans hB hbel.size))) (by omega) (fun x hx=>hwl x (List.mem_of_mem_take hx))
    generalize Mp.jH D.l cm (ws.getD k 0)=oo at *;generalize ws.getD k 0=x at *;generalize Mp.aU (ws.take (k + 1))=sz at *;replace SZ:=zq SZ; replace ON:=zq ON
    by_cases ho:oo=0
    ·subst ho
     simp only [ne_eq,not_true_eq_false,if_false] at hrr
     by_cases h64:64 < sz
     ·simp only [h64,if_true] at hrr
      subst hrr;go_wp2_with fail
      refine (ON.out).mono ?_;rintro e w1 ⟨rfl,b1⟩;go_wp2_with fail
      refine (SZ.out _ b1).mono ?_;rintro e w2 ⟨rfl,rfl⟩;go_wp2_with fail
      go_ret
      exact ⟨rfl,aa hbel b1 lq⟩
     ·simp only [h64,if_false] at hrr
      have HRR:=zq hrr;clear hrr;go_wp2_with fail
      refine (ON.out).mono ?_;rintro e w1 ⟨rfl,b1⟩;go_wp2_with fail
      refine (SZ.out _ b1).mono ?_;rintro e w2 ⟨rfl,rfl⟩;go_wp2_with fail
      go_roundw
      case rel=>exact ⟨k + 1,by omega,by go_num,aa hbel b1 lq,HRR.out⟩
      case measure=>simp [intOf] <;> omega
    ·simp only [ne_eq,ho,not_false_eq_true,if_true] at hrr
     subst hrr;have ho2:(oo == 0)=false:=by simpa using ho
     have ho3:(oo != 0)=true:=by simpa using ho
     replace ho:=zq ho;go_wp2_with fail
     refine (ON.out).mono ?_;rintro e w1 ⟨rfl,b1⟩;go_wp2_with fail
     go_ret
     exact ⟨rfl,aa hbel b1 lq⟩
   ·obtain rfl:k=n:=by omega
    rw [Nat.sub_self] at hrr;have Vk:r=0:=hrr.symm;subst Vk;go_wp2_with fail
    go_ret
    exact ⟨rfl,hbel⟩
theorem Calls.kE {P:Program} {f:FuncId} {args:Array Value} {w:World} {d:Nat} {os:Array Obj} {v:Value}
  (h:Calls P f args (Go.Sort.grow (redrawn w d) os) fun e w'=>e=.returned v/\Go.Sort.grow (redrawn w d) os=w'):Calls P f args (Go.Sort.grow (redrawn w d) os) fun e w''=>e=.returned v/\∃ p:Regrown,w''=Go.Sort.grow (redrawn w p.d) p.os :=
 h.mono fun _ _ ⟨he,hb⟩=>⟨he,⟨d,os⟩,hb.symm⟩
end
end Go.Proofs.YtijegngfclkdaaaGreatDoor
