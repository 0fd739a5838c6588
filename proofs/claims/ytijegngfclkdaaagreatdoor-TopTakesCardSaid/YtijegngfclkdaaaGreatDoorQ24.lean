/-
  Piece 24 of the proof.
  Conditions: none.
-/
import Derived.ChangeKeysEq
import Derived.Laws.StructEq
import Derived.Test.YtijegngfclkdaaaGreatDoorQ22
import Derived.Test.YtijegngfclkdaaaGreatDoorQ23
set_option linter.unusedVariables false
set_option linter.unusedSimpArgs false
set_option maxHeartbeats 100000000
set_option maxRecDepth 100000
namespace Go.Proofs.YtijegngfclkdaaaGreatDoor
section
open Go.RowKit
theorem Gf {A:Option Addr} {n c B:Nat} {l:List UInt8} (i:Int) (r:Bool) (w:World) (h:RB w B A n c l) (hB:B<=w.heap.size) (hn:n<=1000000):Calls Tryz.prog 109 #[.agg #[.int .i64 i,.bool r,.slice A n c]] w fun e w'=>∃ A' c',e=.returned (.agg #[.int .i64 i,.bool r,.slice A' n c'])/\Below w.heap.size w w':=by
 have b1:=ae w (.cells #[.int .i64 i,.bool r,.slice A n c] 37);have K1:=ao.new w 37 #[.int .i64 i,.bool r,.slice A n c];have b2:=ae (w.alloc (.cells #[.int .i64 i,.bool r,.slice A n c] 37)) (.cells #[.int .i64 0,.bool false,.slice none 0 0] 37);have K2:=ao.new (w.alloc (.cells #[.int .i64 i,.bool r,.slice A n c] 37)) 37 #[.int .i64 0,.bool false,.slice none 0 0];rw [World.size_alloc] at K2;have VE:=K1.later b2;have d2:=aa b1 b2 lq;have h2:=h.below (d2.mono hB);have k1:=VE.three;have k2:=K2.three;have HK:=zq3 VE K2 d2;have hB2:B<=((w.alloc (.cells #[.int .i64 i,.bool r,.slice A n c] 37)).alloc (.cells #[.int .i64 0,.bool false,.slice none 0 0] 37)).heap.size:=Nat.le_trans hB d2.size;clear h b1 K1 b2 K2 VE d2;generalize hw2:(w.alloc (.cells #[.int .i64 i,.bool r,.slice A n c] 37)).alloc (.cells #[.int .i64 0,.bool false,.slice none 0 0] 37)=w2 at *;go_enter Tryz.func109,Tryz.ntmps109
 go_wp2_with (at_builtin; (try rw [hw2]); refine bU od rfl (.const (.slice none 0 0)) (.tmp 4) rfl rfl rfl w2.heap.size h2 (by omega) lq ?_; intro A5 c5 w5 o5 b5; have k15:=(HK.out.1.later b5).three; have k25:=(HK.out.2.1.later b5).three; have ZU:=zq b5; have hS1:=HK.out.1.later b5; have hS2:=HK.out.2.1.later b5)
 have hne:w.heap.size + 1≠w.heap.size:=by omega
 have KF:=(hS2.cR (p:=⟨w.heap.size,2,none⟩) hne (.slice A5 n c5)).eG (.int .i64 i) (.bool r) (.slice A5 n c5);have s0:=KF.cell 0;have s1:=KF.cell 1;have s2:=KF.cell 2;have d5:=aa HK.out.2.2 ZU.out lq;have d6:=d5.setCell (p:=⟨w.heap.size,2,none⟩) lq (.slice A5 n c5);have d7:=d6.setCell (p:=⟨w.heap.size + 1,0,none⟩) (Nat.le_succ _) (.int .i64 i);have d8:=d7.setCell (p:=⟨w.heap.size + 1,1,none⟩) (Nat.le_succ _) (.bool r);have d9:=d8.setCell (p:=⟨w.heap.size + 1,2,none⟩) (Nat.le_succ _) (.slice A5 n c5);exact bodyPost_ret (v:=.agg #[.int .i64 i,.bool r,.slice A5 n c5]) (by simp [results,Tryz.results109,go_sem,s0,s1,s2]) rfl ⟨A5,c5,rfl,d9⟩
structure Eu (w:World) (F:Nat->Prop) (A:Option Addr) (n c:Nat):Prop where
 own:∃ xs,OV w 0 37 3 A n c xs
 few:n<=4096
 at_:∀ k,(Value.slice A n c).ownBlock=some k->F k
theorem Eu.mv {w w':World} {F G:Nat->Prop} {A:Option Addr} {n c:Nat} (h:Eu w F A n c) (hm:Mv G w w') (hd:∀ b,b < w.heap.size->F b->¬ G b):Eu w' F A n c:=by
 obtain ⟨xs,h1⟩:=h.own;exact ⟨⟨xs,OV.UB h1 hm fun k hk=>hd k (h1.lt k hk).2 (h.at_ k hk)⟩,h.few,h.at_⟩
theorem Eu.mono {w:World} {F G:Nat->Prop} {A:Option Addr} {n c:Nat} (h:Eu w F A n c) (hi:∀ b,b < w.heap.size->F b->G b):Eu w G A n c:=by
 obtain ⟨xs,h1⟩:=h.own;exact ⟨⟨xs,h1⟩,h.few,fun k hk=>hi k (h1.lt k hk).2 (h.at_ k hk)⟩
def QI (w:World) (F:Nat->Prop) (gb o:Nat) (A:Option Addr) (n c:Nat) (e:Ending) (w':World):Prop :=
 e=.returned (.tuple #[])/\∃ w4 A' n' c',Mv (fun q=>some q=(Value.slice A n c).ownBlock) w w4/\Eu w4 (fun q=>F q\/(w.heap.size<=q/\q < w4.heap.size)) A' n' c'/\(w'=w4.setCell ⟨gb,o + 2,none⟩ (.slice A' n' c')\/(w'=w4/\A'=A/\n'=n/\c'=c))
theorem AH {w:World} {F:Nat->Prop} {gb o:Nat} {A:Option Addr} {n c:Nat} (h:Eu w F A n c) (hgb:w.cell? ⟨gb,o + 2,none⟩=some (.slice A n c)) (hgf:w.frozen? ⟨gb,o + 2,none⟩=false) (hgl:gb < w.heap.size) (hFg:¬ F gb) {A2:Option Addr} {n2 c2 B:Nat} {l:List UInt8} (i:Int) (r:Bool) (hr:RB w B A2 n2 c2 l) (hB:B<=w.heap.size) (hn2:n2<=1000000) :
  Calls Tryz.prog 67 #[.pointer (some ⟨gb,o,none⟩),.agg #[.int .i64 i,.bool r,.slice A2 n2 c2]] w (QI w F gb o A n c):=by
 have b1:=ae w (.cells #[.int .i64 i,.bool r,.slice A2 n2 c2] 37);have K1:=ao.new w 37 #[.int .i64 i,.bool r,.slice A2 n2 c2];have g1:=(b1.cell (p:=⟨gb,o + 2,none⟩) hgl).trans hgb;have k1:=K1.three
 by_cases hn:n < 4096
 ·have e1:decide ((n:Int) < 4096)=true:=decide_eq_true (by omega)
  have HN:=zq hn;have bd:=af (w.alloc (.cells #[.int .i64 i,.bool r,.slice A2 n2 c2] 37));have Kd:=K1.later bd;have gd:(w.alloc (.cells #[.int .i64 i,.bool r,.slice A2 n2 c2] 37)).drew.cell? ⟨gb,o + 2,none⟩=some (.slice A n c):=g1;have gf:=(b1.frozen (p:=⟨gb,o + 2,none⟩) hgl).trans hgf;have SG:(w.alloc (.cells #[.int .i64 i,.bool r,.slice A2 n2 c2] 37)).drew.frozen? ⟨gb,o + 2,none⟩=false:=gf;have dd:=aa b1 bd lq;obtain ⟨C,hC⟩:∃ C:World->Prop,∀ y,C y↔(ao y w.heap.size 37 #[.int .i64 i,.bool r,.slice A2 n2 c2]/\y.cell? ⟨gb,o + 2,none⟩=some (.slice A n c)):=⟨_,fun y=>Iff.rfl⟩;have ZV:∀ y:Cl C,y.val.cell? ⟨w.heap.size,0,none⟩=some (.int .i64 i):=fun y=>((hC _).1 y.ok).1.cell 0
  have ZW:∀ y:Cl C,y.val.cell? ⟨w.heap.size,1,none⟩=some (.bool r):=fun y=>((hC _).1 y.ok).1.cell 1
  have ZX:∀ y:Cl C,y.val.cell? ⟨w.heap.size,2,none⟩=some (.slice A2 n2 c2):=fun y=>((hC _).1 y.ok).1.cell 2
  have ZY:∀ y:Cl C,y.val.cell? ⟨gb,o + 2,none⟩=some (.slice A n c):=fun y=>((hC _).1 y.ok).2
  have hC0:=(hC _).2 ⟨Kd,gd⟩;haveI XG:Nonempty (Cl C):=⟨⟨_,hC0⟩⟩;have OW:=zq (Gf i r _ (hr.below (dd.mono hB)) (Nat.le_trans hB dd.size) hn2);have HH:=zq h;have HD:=zq4 dd SG Kd gd;have HG:=zq2 hgl hFg;have OL:=zq hC;clear hn h hr hB K1 b1 bd Kd gf SG dd hC gd hgb hgf;go_enter Tryz.func67,Tryz.ntmps67
  go_wp2_with fail
  refine B7 11 C (by kernel_rfl) ?_;clear k1 g1;generalize (w.alloc (.cells #[.int .i64 i,.bool r,.slice A2 n2 c2] 37)).drew=wd at *;refine vG (by kernel_rfl) 6 hC0 [0,1,5,2,3,4] rfl (by kernel_rfl) ?_;simp only [aj,nth]
  repeat (go_big_quiet_step (fail))
  refine wpQuiet_nil ?_;refine ag 6 5 rfl (by kernel_rfl) (by decide) ?_;simp only [nth];clear ZV ZW ZX ZY;go_wp2_with fail
  refine (OW.out).mono ?_;rintro e w3 ⟨A3,c3,rfl,b3⟩;have C3:C w3:=(OL.out _).2 ⟨HD.out.2.2.1.later b3,(b3.cell (p:=⟨gb,o + 2,none⟩) (Nat.lt_of_lt_of_le HG.out.1 HD.out.1.size)).trans HD.out.2.2.2⟩;have D3:=zq (aa HD.out.1 b3 lq);have b4:=ae w3 (.cells #[.int .i64 i,.bool r,.slice A3 n2 c3] 37);have K4:=ao.new w3 37 #[.int .i64 i,.bool r,.slice A3 n2 c3];have hlt3:gb < w3.heap.size:=Nat.lt_of_lt_of_le HG.out.1 D3.out.size;have C4:C (w3.alloc (.cells #[.int .i64 i,.bool r,.slice A3 n2 c3] 37)):=(OL.out _).2 ⟨((OL.out _).1 C3).1.later b4,(b4.cell (p:=⟨gb,o + 2,none⟩) hlt3).trans ((OL.out _).1 C3).2⟩;have HD4:=zq (aa D3.out b4 lq);have f3:=(b3.frozen (p:=⟨gb,o + 2,none⟩) (Nat.lt_of_lt_of_le HG.out.1 HD.out.1.size)).trans HD.out.2.1;have F4:=zq ((b4.frozen (p:=⟨gb,o + 2,none⟩) hlt3).trans f3);have HS3:=zq D3.out.size;clear OW b3 b4 f3 hC0;go_wp2_with fail
  refine jv C3 ?_;refine ag 7 4 rfl (by kernel_rfl) (by decide) ?_;simp only [nth];go_wp2_with fail
  refine jv C4 ?_;obtain ⟨xs,hown⟩:=HH.out.own;have Ms:=hown.below HD4.out;have hnew:=RV.new w3 37 (size:=3) (cs:=[.int .i64 i,.bool r,.slice A3 n2 c3]) rfl;have hone:∀ u∈([.int .i64 i,.bool r,.slice A3 n2 c3]:List Value),u.oneCell'=true:=by
   intro u hu;simp only [List.mem_cons,List.not_mem_nil,or_false] at hu;rcases hu with rfl | rfl | rfl <;> rfl
  have hn4:=HN.out;have hs4:w3.heap.size < (w3.alloc (.cells #[.int .i64 i,.bool r,.slice A3 n2 c3] 37)).heap.size:=by rw [World.size_alloc]; omega
  have hown0:∀ k,(Value.slice A n c).ownBlock=some k->F k:=HH.out.at_;have XH:=((OL.out _).1 C4).1;have hg4:=((OL.out _).1 C4).2;have Dr:gb < (w3.alloc (.cells #[.int .i64 i,.bool r,.slice A3 n2 c3] 37)).heap.size:=by omega
  generalize hw4:w3.alloc (.cells #[.int .i64 i,.bool r,.slice A3 n2 c3] 37)=w4 at *;refine ag 8 3 rfl (by kernel_rfl) (by decide) ?_;simp only [nth];go_wp2_with (at_builtin; refine b_ Q5 rfl (.tmp 14) (.tmp 17) rfl rfl rfl 0 Ms hnew hone (by omega) (by omega) (Nat.zero_le _) ?_; intro A5 c5 w5 o5 g5 j5)
  have hgn:some gb≠(Value.slice A n c).ownBlock:=fun e=>HG.out.2 (hown0 gb e.symm)
  have hbn:some w.heap.size≠(Value.slice A n c).ownBlock:=fun e=>by have:=(hown.lt _ e.symm).2; omega
  have m5:=Mv.fk g5;have K5:=XH.grown g5 hbn;have ZZ:w5.cell? ⟨gb,o + 2,none⟩=some (.slice A n c):=(World.cell?_of_block (g5.block gb Dr hgn)).trans hg4;have f5g:w5.frozen? ⟨gb,o + 2,none⟩=false:=(World.frozen?_of_block (g5.block gb Dr hgn)).trans F4.out;have C5:C w5:=(OL.out _).2 ⟨K5,ZZ⟩;have M5:Hid (Mv (fun q=>some q=(Value.slice A n c).ownBlock) w w5):=zq ((Mv.aq HD4.out _).trans m5 fun _ _ e=>e);have L5:Hid (Eu w5 (fun q=>F q\/(w.heap.size<=q/\q < w5.heap.size)) A5 (n + 1) c5):=zq ⟨⟨_,o5⟩,by omega,fun k hk=>by
   rcases j5 with j5 | j5
   ·rw [j5] at hk; exact .inl (hown0 k hk)
   ·rw [j5] at hk
    injection hk with hk
    have:=HD4.out.size;have:=(o5.lt k (by rw [j5,hk])).2;exact .inr ⟨by omega,by omega⟩⟩
  clear hown Ms hnew hone o5 g5 j5 m5 K5 XH hg4 C3 C4 K4 hw4 HD HD4 hgn hbn hown0;refine jv C5 ?_;refine ag 9 2 rfl (by kernel_rfl) (by decide) ?_;simp only [nth];go_wp2_with fail
  refine jv C5 ?_;refine vG (by kernel_rfl) 1 C5 [10] rfl (by kernel_rfl) ?_;simp only [aj,nth]
  repeat (go_big_quiet_step (fail))
  refine wpQuiet_nil ?_;refine bL 0 rfl (by kernel_rfl) (by decide) (by kernel_rfl) ?_;simp only [nth];go_wp2_with fail
  refine bY ?_;go_wp2_with fail
  go_end0
  exact ⟨rfl,w5,A5,n + 1,c5,M5.out,L5.out,.inl rfl⟩
 ·have e1:decide ((n:Int) < 4096)=false:=decide_eq_false (by omega)
  have HH:=zq h;have HB1:=zq b1;clear hn h hr hB K1 k1 b1;go_enter Tryz.func67,Tryz.ntmps67
  go_wp2_with fail
  go_end0
  have m1:Mv (fun q=>some q=(Value.slice A n c).ownBlock) w (w.alloc (.cells #[.int .i64 i,.bool r,.slice A2 n2 c2] 37)):=Mv.aq HB1.out _;exact ⟨rfl,_,A,n,c,m1,(HH.out.mv (Mv.aq HB1.out fun _=>False) fun _ _ _ h=>h).mono fun _ _ h=>.inl h,.inr ⟨rfl,rfl,rfl,rfl⟩⟩
end
namespace Nn
open Go.RowKit
def pt (o:Option Nat):Value:=.pointer (o.map fun g=>⟨g,0,none⟩)
def opt (o:Option Nat) (R:Nat->Rs):Rs:=match o with
 | none=>Rs.Ge
 | some g=>R g
def ua (g:Nat) (t:TypeId) (C:Array Value->Prop):Rs where
 P:=fun w F=>F g/\∃ cs,ao w g t cs/\C cs
 mv:=fun w w' F G h hm hd=>by
  obtain ⟨h1,cs,h2,h3⟩:=h;exact ⟨h1,cs,h2.mv hm (hd g h2.lt h1),h3⟩
 mono:=fun w F G h hi=>by
  obtain ⟨h1,cs,h2,h3⟩:=h;exact ⟨hi g h2.lt h1,cs,h2,h3⟩
def TO (x:Int×Int) (cs:List Value):Prop:=cs=[.int .i64 x.1,.int .i64 x.2]
structure lD (w:World) (F:Nat->Prop) (g:Nat) (act:List (Int×Int)):Prop where
 fg:F g
 ex:∃ (Aa:Option Addr) (ca:Nat) (Ah:Option Addr) (nh ch:Nat) (xs:List Value) (hs:List Int),ao w g 168 #[.int .i64 133,.slice Aa act.length ca,.slice Ah nh ch]/\(OF w 0 170 2 Aa act.length ca xs/\Rows TO 2 act xs/\∀ k,(Value.slice Aa act.length ca).ownBlock=some k->F k/\k≠g)/\ij w (fun q=>F q/\q≠g/\some q≠(Value.slice Aa act.length ca).ownBlock) 1 Ah nh ch (hs.map fun z=>Value.int .u32 z)/\nh<=4
 ok:∀ x∈act,(1<=x.1/\x.1<=65535)/\(0<=x.2/\x.2<=255)
 few:act.length<=64
theorem lD.mv {w w':World} {F G:Nat->Prop} {g:Nat} {act:List (Int×Int)} (h:lD w F g act) (hm:Mv G w w') (hd:∀ b,b < w.heap.size->F b->¬ G b):lD w' F g act:=by
 obtain ⟨Aa,ca,Ah,nh,ch,xs,hs,h1,⟨h2,h3,h4⟩,h5,h6⟩:=h.ex;exact ⟨h.fg,⟨Aa,ca,Ah,nh,ch,xs,hs,h1.mv hm (hd g h1.lt h.fg),⟨h2.uj hm fun k hk=>hd k (h2.lt k hk) (h4 k hk).1,h3,h4⟩,h5.mv hm fun b hb hf=>hd b hb hf.1,h6⟩,h.ok,h.few⟩
theorem lD.mono {w:World} {F G:Nat->Prop} {g:Nat} {act:List (Int×Int)} (h:lD w F g act) (hi:∀ b,b < w.heap.size->F b->G b):lD w G g act:=by
 obtain ⟨Aa,ca,Ah,nh,ch,xs,hs,h1,⟨h2,h3,h4⟩,h5,h6⟩:=h.ex;exact ⟨hi g h1.lt h.fg,⟨Aa,ca,Ah,nh,ch,xs,hs,h1,⟨h2,h3,fun k hk=>⟨hi k (h2.lt k hk) (h4 k hk).1,(h4 k hk).2⟩⟩,h5.mono fun b hb hf=>⟨hi b hb hf.1,hf.2⟩,h6⟩,h.ok,h.few⟩
def MO (act:List (Int×Int)) (g:Nat):Rs:=⟨fun w F=>lD w F g act,fun _ _ _ _ h hm hd=>h.mv hm hd,fun _ _ _ h hi=>h.mono hi⟩
def UC (_:Unit) (cs:List Value):Prop:=∃ (a b:Int) (t:Bool) (c d:Int),cs=[.int .i64 a,.int .i64 b,.bool t,.int .i64 c,.int .i64 d]
def kx (w:World) (F:Nat->Prop) (g:Nat):Prop:=F g/\∃ (ev le:Int) (A:Option Addr) (n c:Nat) (xs:List Value),ao w g 320 #[.int .i64 5,.int .i64 ev,.int .i64 le,.slice A n c]/\OV w 0 299 5 A n c xs/\Rows UC 5 (List.replicate n ()) xs/\(∀ k,(Value.slice A n c).ownBlock=some k->F k/\k≠g)/\n<=8
def yi (g:Nat):Rs where
 P:=fun w F=>kx w F g
 mv:=fun w w' F G h hm hd=>by
  obtain ⟨h1,ev,le,A,n,c,xs,h2,h3,h4,h5,h6⟩:=h;exact ⟨h1,ev,le,A,n,c,xs,h2.mv hm (hd g h2.lt h1),h3.uj hm fun k hk=>hd k (h3.lt k hk).2 (h5 k hk).1,h4,h5,h6⟩
 mono:=fun w F G h hi=>by
  obtain ⟨h1,ev,le,A,n,c,xs,h2,h3,h4,h5,h6⟩:=h;exact ⟨hi g h2.lt h1,ev,le,A,n,c,xs,h2,h3,h4,fun k hk=>⟨hi k (h3.lt k hk).2 (h5 k hk).1,(h5 k hk).2⟩,h6⟩
def QA (f:Can.Fr):Prop:=f.data.length<=8
def sa (g:Nat):Rs where
 P:=fun w F=>∃ fs lost sp,QR w F g 64 fs lost sp/\(∀ f∈fs,QA f)/\fs.length<=64
 mv:=fun w w' F G h hm hd=>by
  obtain ⟨fs,lost,sp,h1,h2⟩:=h;exact ⟨fs,lost,sp,h1.mv hm hd,h2⟩
 mono:=fun w F G h hi=>by
  obtain ⟨fs,lost,sp,h1,h2⟩:=h;exact ⟨fs,lost,sp,h1.mono hi,h2⟩
def uE (g:Nat):Rs where
 P:=fun w F=>∃ a b:Nat,(ua g 303 fun cs=>∃ z:Int,cs=#[pt (some a),pt (some b),.int .i64 1541,.int .i64 1413,.int .i64 z]).P w F/\(ua a 368 fun cs=>cs[1]?=some (.int .i64 0)).P w F/\(ua b 375 fun cs=>cs[7]?=some (.int .i64 0)).P w F
 mv:=fun w w' F G h hm hd=>by
  obtain ⟨a,b,h1,h2,h3⟩:=h;exact ⟨a,b,Rs.mv _ w w' F G h1 hm hd,Rs.mv _ w w' F G h2 hm hd,Rs.mv _ w w' F G h3 hm hd⟩
 mono:=fun w F G h hi=>by
  obtain ⟨a,b,h1,h2,h3⟩:=h;exact ⟨a,b,Rs.mono _ w F G h1 hi,Rs.mono _ w F G h2 hi,Rs.mono _ w F G h3 hi⟩
def mY (pid:Int) (g:Nat):Rs:=ua g 353 fun cs=>∃ a b:Int,cs=#[.int .i64 pid,.int .i64 a,.int .i64 b]
def kM (x:Int):Prop:=4096<=x/\x<=8191
def mV (gd:Nat) (x:Nat×Int×List Nat) (g:Nat):Rs where
 P:=fun w F=>∃ gp waits Aw cw Av cv,mT w F g gp gd x.1 x.2.1 x.2.2 waits Aw cw Av cv/\∀ v∈waits,v.data.length<=32/\¬ kM v.index
 mv:=fun w w' F G h hm hd=>by
  obtain ⟨gp,waits,Aw,cw,Av,cv,h1,h2⟩:=h;exact ⟨gp,waits,Aw,cw,Av,cv,h1.mv hm hd,h2⟩
 mono:=fun w F G h hi=>by
  obtain ⟨gp,waits,Aw,cw,Av,cv,h1,h2⟩:=h;exact ⟨gp,waits,Aw,cw,Av,cv,h1.mono hi,h2⟩
def n_ (gd g:Nat):Rs where
 P:=fun w F=>∃ v t aV ev ws Aw cw s,iO w 0 g gd v t aV ev ws Aw cw s/\(∀ x∈ws,x < 4294967296)/\Tp.Ok t aV ev s/\F g/\∀ k,(Value.slice Aw ws.length cw).ownBlock=some k->F k
 mv:=fun w w' F G h hm hd=>by
  obtain ⟨v,t,aV,ev,ws,Aw,cw,s,h1,h2,h3,h4,h5⟩:=h;exact ⟨v,t,aV,ev,ws,Aw,cw,s,h1.uj hm (hd g h1.aP.lt h4) fun k hk=>hd k (OV.lt h1.words k hk).2 (h5 k hk),h2,h3,h4,h5⟩
 mono:=fun w F G h hi=>by
  obtain ⟨v,t,aV,ev,ws,Aw,cw,s,h1,h2,h3,h4,h5⟩:=h;exact ⟨v,t,aV,ev,ws,Aw,cw,s,h1,h2,h3,hi g h1.aP.lt h4,fun k hk=>hi k (OV.lt h1.words k hk).2 (h5 k hk)⟩
def Bj:vO:=⟨List.replicate (3 * 1024) 255,List.replicate 3 0,1000,false,-1,0,0⟩
def Kx (g:Nat):Rs where
 P:=fun w F=>∃ A c A' c',m7 w 0 g A (3 * 1024) c A' 3 c' Bj/\∀ q,FF g A (3 * 1024) c A' 3 c' q->F q
 mv:=fun w w' F G h hm hd=>by
  obtain ⟨A,c,A',c',h1,h2⟩:=h;exact ⟨A,c,A',c',h1.mv hm fun q hq=>hd q (h1.lt hq) (h2 q hq),h2⟩
 mono:=fun w F G h hi=>by
  obtain ⟨A,c,A',c',h1,h2⟩:=h;exact ⟨A,c,A',c',h1,fun q hq=>hi q (h1.lt hq) (h2 q hq)⟩
def Jz (g:Nat) (D:Dc.aZ):Rs where
 P:=fun w F=>∃ gv lc vc la vA xs vs,cM 131 w F g gv (some la) lc vA vc xs vs D
 mv:=fun w w' F G h hm hd=>by
  obtain ⟨gv,lc,vc,la,vA,xs,vs,h1⟩:=h;exact ⟨gv,lc,vc,la,vA,xs,vs,h1.mv hm hd⟩
 mono:=fun w F G h hi=>by
  obtain ⟨gv,lc,vc,la,vA,xs,vs,h1⟩:=h;exact ⟨gv,lc,vc,la,vA,xs,vs,h1.mono hi⟩
def Ek (gf g:Nat):Rs where
 P:=fun w F=>∃ gj gl A c xs As cs x,AQ w F g gj gl A c xs gf As cs x/\x.s=[]/\x.odd=false/\x.off=false
 mv:=fun w w' F G h hm hd=>by
  obtain ⟨gj,gl,A,c,xs,As,cs,x,h1,h2⟩:=h;exact ⟨gj,gl,A,c,xs,As,cs,x,h1.mv hm hd,h2⟩
 mono:=fun w F G h hi=>by
  obtain ⟨gj,gl,A,c,xs,As,cs,x,h1,h2⟩:=h;exact ⟨gj,gl,A,c,xs,As,cs,x,h1.mono hi,h2⟩
def FU (gn gb:Nat):Rs where
 P:=fun w F=>F gb/\∃ (gc gm:Nat) (A:Option Addr) (n c:Nat),ao w gb 89 #[pt (some gn),pt (some gc),.slice A n c]/\Eu w (fun q=>F q/\q≠gb) A n c/\(ua gc 142 fun cs=>cs[2]?=some (.map (some gm))).P w F/\F gm/\∃ ck,w.heap[gm]?=some (.map #[] ck)
 mv:=fun w w' F G h hm hd=>by
  obtain ⟨h1,gc,gm,A,n,c,h2,h3,h4,h5,ck,h6⟩:=h;have hlt:gm < w.heap.size:=(Array.getElem?_eq_some_iff.1 h6).1;exact ⟨h1,gc,gm,A,n,c,h2.mv hm (hd gb h2.lt h1),h3.mv hm fun b hb hf=>hd b hb hf.1,Rs.mv _ w w' F G h4 hm hd,h5,ck,(hm.block gm hlt (hd gm hlt h5)).trans h6⟩
 mono:=fun w F G h hi=>by
  obtain ⟨h1,gc,gm,A,n,c,h2,h3,h4,h5,ck,h6⟩:=h;have hlt:gm < w.heap.size:=(Array.getElem?_eq_some_iff.1 h6).1;exact ⟨hi gb h2.lt h1,gc,gm,A,n,c,h2,h3.mono fun b hb hf=>⟨hi b hb hf.1,hf.2⟩,Rs.mono _ w F G h4 hi,hi gm hlt h5,ck,h6⟩
structure cu where
 gn:Nat
 gf:Nat
 gd:Nat
 gb:Option Nat
 gv:Option Nat
 gq:Option Nat
 gs:Option Nat
 gh:Option Nat
 ge:Option Nat
 gp:Option Nat
 gi:Nat->Option Nat
 go:Nat->Option Nat
 st:Int
 on:Bool
 D:Dc.aZ
 act:List (Int×Int)
 pid:Int
 ic:Nat->Nat×Int×List Nat
def aG (s:cu):Array Value:=#[pt s.gq,pt s.gs,pt s.gh,pt s.ge,pt s.gp,pt (s.gi 0),pt (s.gi 1),pt (s.gi 2),pt (s.gi 3),pt (s.go 0),pt (s.go 1),pt (s.go 2),pt (s.go 3),.int .i64 5,.pointer (some ⟨s.gf,0,none⟩),.pointer (some ⟨s.gd,0,none⟩),pt s.gv,.int .i64 s.st,.bool s.on]
def cu.rs (s:cu):Cp->Rs
 | .node=>ua s.gn 110 fun cs=>cs=aG s
 | .fla=>Kx s.gf
 | .dy=>Jz s.gd s.D
 | .pU=>opt s.gv (Ek s.gf)
 | .dn=>opt s.gq sa
 | .qi=>opt s.gs uE
 | .dx=>opt s.gh yi
 | .gD=>opt s.ge (MO s.act)
 | .tv=>opt s.gp (mY s.pid)
 | .cm k=>opt (s.gi k) (mV s.gd (s.ic k))
 | .out k=>opt (s.go k) (n_ s.gd)
 | .m6=>opt s.gb (FU s.gn)
 | .ext=>Rs.Ge
def Nd (s:cu) (w:World) (ah:Nat->Cp):Prop:=Al s.rs w ah
section
variable {s s':cu} {w w':World} {ah:Nat->Cp}
theorem Nd.below (h:Nd s w ah) (hb:Below w.heap.size w w') (i:Cp):Nd s w' (aL ah w.heap.size w'.heap.size i):=Al.below h hb i
theorem Nd.node (h:Nd s w ah):ao w s.gn 110 (aG s):=by
 obtain ⟨_,cs,h2,rfl⟩:=h .node;exact h2
theorem Nd.dy (h:Nd s w ah):∃ gv lc vc la vA xs vs,cM 131 w (fun q=>ah q=.dy) s.gd gv (some la) lc vA vc xs vs s.D:=h .dy
end
open Go
theorem Nf (a b c d:Int) (w:World):(Op.equalIn 10000 178 (.agg #[.int .i64 a,.int .i64 b]) (.agg #[.int .i64 c,.int .i64 d])).run Tryz.prog w=.ok (a == c && b == d) w:=by
 obtain ⟨i,hi⟩:∃ i,(Tryz.prog).info? 3=some i:=Option.isSome_iff_exists.1 (by kernel_rfl);have hu:Program.underlying Tryz.prog 178=some (.array 2 3):=Tryz.underlying178;have hc:Program.cellsOf Tryz.prog 3=1:=by kernel_rfl
 have hp1:∀ (x y:Int) w,(part 3 #[Value.int .i64 x,Value.int .i64 y] 0).run Tryz.prog w=.ok (.int .i64 x) w:=fun x y w=>by kernel_rfl
 have hp2:∀ (x y:Int) w,(part 3 #[Value.int .i64 x,Value.int .i64 y] 1).run Tryz.prog w=.ok (.int .i64 y) w:=fun x y w=>by kernel_rfl
 have hq:∀ (x y:Int) w,(Op.equalIn 9999 3 (.int .i64 x) (.int .i64 y)).run Tryz.prog w=.ok (x == y) w:=fun x y w=>run_equalIn_int w 9998 3 .i64 .i64 x y Tryz.underlying3
 rw [show (10000:Nat)=9999 + 1 from rfl,run_equalIn_array w 9999 _ _ hu hi,hc,show List.range 2=[0,1] from rfl];simp only [Op.eqItems,Sem.run_bind,Nat.zero_mul,Nat.one_mul,Nat.mul_one,hp1,hp2,hq,Result.andThen_ok];cases hac:(a == c) <;> cases hbd:(b == d) <;> simp [hp1,hp2,hq,hbd]
def kU (k:Int):Int:=if k=2\/k=4\/k=5 then 128 else if k=3\/k=6 then 256 else if k=7 then 1408 else if k=8 then 1536 else if k=9 then 1792 else 0
def dA (k:Int):Prop:=k=0\/k=1\/k=2\/k=3\/k=4\/k=5\/k=6\/k=7\/k=8\/k=9
theorem qv (k:Int) (hk:dA k) (w:World):Calls Tryz.prog 99 #[.int .i64 k] w fun e w'=>e=.returned (.tuple #[.int .i64 (kU k),.bool (decide (k≠0))])/\w=w':=by
 rcases hk with rfl | rfl | rfl | rfl | rfl | rfl | rfl | rfl | rfl | rfl
 all_goals
  go_enter Tryz.func99,Tryz.ntmps99
  go_wp2_with fail
  go_ret2
  exact ⟨rfl,rfl⟩
def UD (w:World) (e:Ending) (w':World):Prop:=(∃ z c:Int,e=.returned (.tuple #[.int .i64 z,.int .i64 c]))/\Below w.heap.size w w'
theorem QJ (n a b:Int):∃ t:Bool,∀ w,Calls Tryz.prog 100 #[.int .i64 n,.int .i64 a,.int .i64 b] w fun e w'=>e=.returned (.bool t)/\w=w':=⟨_,fun w=>fC n a b w⟩
theorem Kj (k i j:Int) (hk:dA k) (w:World):Calls Tryz.prog 64 #[.agg #[.int .i64 k,.int .i64 i,.int .i64 j]] w (UD w):=by
 obtain ⟨t1,B1⟩:=QJ i 1 4;obtain ⟨t2,B2⟩:=QJ j 1 127;have BA:=zq (qv k hk);have HB:=zq2 B1 B2;have K:=(ao.new w 136 #[.int .i64 k,.int .i64 i,.int .i64 j]).three;have EQ:=zq (Nf i j 0 0);obtain ⟨z1,hz1⟩:∃ z:Bool,(i == 0)=z:=⟨_,rfl⟩;obtain ⟨z2,hz2⟩:∃ z:Bool,(j == 0)=z:=⟨_,rfl⟩;clear B1 B2;have hk':k=0\/(k=1\/k=2\/k=3)\/(k=5\/k=6)\/(k=4\/k=7\/k=8\/k=9):=by
  rcases hk with h | h | h | h | h | h | h | h | h | h <;> simp [h]
 clear hk;rcases hk' with rfl | hk | hk | hk
 ·go_enter Tryz.func64,Tryz.ntmps64
  go_wp2_with fail
  refine (BA.out _).mono ?_;rintro e w1 ⟨rfl,rfl⟩;go_wp2_with fail
  go_ret2
  exact ⟨⟨_,_,rfl⟩,ae _ _⟩
 ·have E:=EQ.out
  rcases hk with rfl | rfl | rfl
  all_goals
   go_enter Tryz.func64,Tryz.ntmps64
   go_wp2_with fail
   refine (BA.out _).mono ?_;rintro e w1 ⟨rfl,rfl⟩;cases z1 <;> cases z2
  all_goals
   go_wp2_with fail
   go_ret2
   exact ⟨⟨_,_,rfl⟩,ae _ _⟩
 ·rcases hk with rfl | rfl
  all_goals
   go_enter Tryz.func64,Tryz.ntmps64
   go_wp2_with fail
   refine (BA.out _).mono ?_;rintro e w1 ⟨rfl,rfl⟩;go_wp2_with fail
   refine (HB.out.1 _).mono ?_;rintro e w2 ⟨rfl,rfl⟩;cases t1
   ·go_wp2_with fail
    go_ret2
    exact ⟨⟨_,_,rfl⟩,ae _ _⟩
   ·go_wp2_with fail
    refine (HB.out.2 _).mono ?_;rintro e w2 ⟨rfl,rfl⟩;cases t2
    all_goals
     go_wp2_with fail
     go_ret2
     exact ⟨⟨_,_,rfl⟩,ae _ _⟩
 ·rcases hk with rfl | rfl | rfl | rfl
  all_goals
   go_enter Tryz.func64,Tryz.ntmps64
   go_wp2_with fail
   refine (BA.out _).mono ?_;rintro e w1 ⟨rfl,rfl⟩;cases z1
   ·go_wp2_with fail
    go_ret2
    exact ⟨⟨_,_,rfl⟩,ae _ _⟩
   ·go_wp2_with fail
    refine (HB.out.2 _).mono ?_;rintro e w2 ⟨rfl,rfl⟩;cases t2
    all_goals
     go_wp2_with fail
     go_ret2
     exact ⟨⟨_,_,rfl⟩,ae _ _⟩
theorem h_ (k:Int) (hk:k=4\/k=7\/k=8\/k=9) (w:World):Calls Tryz.prog 64 #[.agg #[.int .i64 k,.int .i64 0,.int .i64 5]] w fun e w'=>e=.returned (.tuple #[.int .i64 (kU k + 5),.int .i64 0])/\Below w.heap.size w w':=by
 have BA:=zq (qv k (by rcases hk with h | h | h | h <;> simp [h,dA]));have BT:=zq (fC 5 1 127);have WE:Hid (wrap64 (wrap64 (kU k) + 5)=kU k + 5):=zq (by rcases hk with rfl | rfl | rfl | rfl <;> kernel_rfl);have K:=(ao.new w 136 #[.int .i64 k,.int .i64 0,.int .i64 5]).three;rcases hk with rfl | rfl | rfl | rfl
 all_goals
  go_enter Tryz.func64,Tryz.ntmps64
  go_wp2_with fail
  refine (BA.out _).mono ?_;rintro e w1 ⟨rfl,rfl⟩;go_wp2_with fail
  refine (BT.out _).mono ?_;rintro e w1 ⟨rfl,rfl⟩;go_wp2_with fail
  go_ret2
  exact ⟨congrArg (fun z=>Ending.returned (.tuple #[.int .i64 z,.int .i64 0])) WE.out,ae _ _⟩
def MV (id:Int) (w:World) (e:Ending) (w':World):Prop:=∃ k i j:Int,e=.returned (.agg #[.int .i64 k,.int .i64 i,.int .i64 j])/\dA k/\(k=9->1792<=id)/\Below w.heap.size w w'
theorem Ag (id:Int) (h0:0<=id/\id<=2047) (w:World):Calls Tryz.prog 320 #[.int .i64 id] w (MV id w):=by
 obtain ⟨q,hq,hq2⟩:∃ q:Nat,Int.tdiv id 128=(q:Int)/\id < 128 * (q + 1)/\128 * q<=id/\q<=15:=⟨(id / 128).toNat,by rw [Int.tdiv_eq_ediv_of_nonneg h0.1]; omega,by omega,by omega,by omega⟩;obtain ⟨r,hr⟩:∃ r:Int,Int.tmod id 128=r:=⟨_,rfl⟩;have K:=ao.new w 136 #[.int .i64 0,.int .i64 0,.int .i64 0];have F:=K.three;have Z0:q=0\/q=1\/q=2\/q=3\/q=4\/q=5\/q=6\/q=7\/q=8\/q=9\/q=10\/q=11\/q=12\/q=13\/q=14\/q=15:=by omega
 obtain ⟨zr,Vd⟩:∃ zr:Bool,(r == 0)=zr:=⟨_,rfl⟩;have HB:=zq2 h0 hq2;clear h0 hq2;rcases Z0 with rfl | rfl | rfl | rfl | rfl | rfl | rfl | rfl | rfl | rfl | rfl | rfl | rfl | rfl | rfl | rfl
 ·go_enter Tryz.func320,Tryz.ntmps320
  go_wp2_with fail
  have R:=(ao.new w 136 #[.int .i64 1,.int .i64 0,.int .i64 r]).three;exact bodyPost_ret (v:=.agg #[.int .i64 1,.int .i64 0,.int .i64 r]) (by simp [results,Tryz.results320,go_sem,R]) rfl ⟨1,0,r,rfl,(by simp [dA]),(fun h=>by cases h),ae _ _⟩
 ·cases zr
  ·go_enter Tryz.func320,Tryz.ntmps320
   go_wp2_with fail
   have R:=(ao.new w 136 #[.int .i64 4,.int .i64 0,.int .i64 r]).three;exact bodyPost_ret (v:=.agg #[.int .i64 4,.int .i64 0,.int .i64 r]) (by simp [results,Tryz.results320,go_sem,R]) rfl ⟨4,0,r,rfl,(by simp [dA]),(fun h=>by cases h),ae _ _⟩
  ·go_enter Tryz.func320,Tryz.ntmps320
   go_wp2_with fail
   have R:=(ao.new w 136 #[.int .i64 2,.int .i64 0,.int .i64 0]).three;exact bodyPost_ret (v:=.agg #[.int .i64 2,.int .i64 0,.int .i64 0]) (by simp [results,Tryz.results320,go_sem,R]) rfl ⟨2,0,0,rfl,(by simp [dA]),(fun h=>by cases h),ae _ _⟩
 ·go_enter Tryz.func320,Tryz.ntmps320
  go_wp2_with fail
  have R:=(ao.new w 136 #[.int .i64 3,.int .i64 0,.int .i64 r]).three;exact bodyPost_ret (v:=.agg #[.int .i64 3,.int .i64 0,.int .i64 r]) (by simp [results,Tryz.results320,go_sem,R]) rfl ⟨3,0,r,rfl,(by simp [dA]),(fun h=>by cases h),ae _ _⟩
 ·go_enter Tryz.func320,Tryz.ntmps320
  go_wp2_with fail
  have R:=(ao.new w 136 #[.int .i64 5,.int .i64 1,.int .i64 r]).three;exact bodyPost_ret (v:=.agg #[.int .i64 5,.int .i64 1,.int .i64 r]) (by simp [results,Tryz.results320,go_sem,R]) rfl ⟨5,1,r,rfl,(by simp [dA]),(fun h=>by cases h),ae _ _⟩
 ·go_enter Tryz.func320,Tryz.ntmps320
  go_wp2_with fail
  have R:=(ao.new w 136 #[.int .i64 6,.int .i64 1,.int .i64 r]).three;exact bodyPost_ret (v:=.agg #[.int .i64 6,.int .i64 1,.int .i64 r]) (by simp [results,Tryz.results320,go_sem,R]) rfl ⟨6,1,r,rfl,(by simp [dA]),(fun h=>by cases h),ae _ _⟩
 ·go_enter Tryz.func320,Tryz.ntmps320
  go_wp2_with fail
  have R:=(ao.new w 136 #[.int .i64 5,.int .i64 2,.int .i64 r]).three;exact bodyPost_ret (v:=.agg #[.int .i64 5,.int .i64 2,.int .i64 r]) (by simp [results,Tryz.results320,go_sem,R]) rfl ⟨5,2,r,rfl,(by simp [dA]),(fun h=>by cases h),ae _ _⟩
 ·go_enter Tryz.func320,Tryz.ntmps320
  go_wp2_with fail
  have R:=(ao.new w 136 #[.int .i64 6,.int .i64 2,.int .i64 r]).three;exact bodyPost_ret (v:=.agg #[.int .i64 6,.int .i64 2,.int .i64 r]) (by simp [results,Tryz.results320,go_sem,R]) rfl ⟨6,2,r,rfl,(by simp [dA]),(fun h=>by cases h),ae _ _⟩
 ·go_enter Tryz.func320,Tryz.ntmps320
  go_wp2_with fail
  have R:=(ao.new w 136 #[.int .i64 5,.int .i64 3,.int .i64 r]).three;exact bodyPost_ret (v:=.agg #[.int .i64 5,.int .i64 3,.int .i64 r]) (by simp [results,Tryz.results320,go_sem,R]) rfl ⟨5,3,r,rfl,(by simp [dA]),(fun h=>by cases h),ae _ _⟩
 ·go_enter Tryz.func320,Tryz.ntmps320
  go_wp2_with fail
  have R:=(ao.new w 136 #[.int .i64 6,.int .i64 3,.int .i64 r]).three;exact bodyPost_ret (v:=.agg #[.int .i64 6,.int .i64 3,.int .i64 r]) (by simp [results,Tryz.results320,go_sem,R]) rfl ⟨6,3,r,rfl,(by simp [dA]),(fun h=>by cases h),ae _ _⟩
 ·go_enter Tryz.func320,Tryz.ntmps320
  go_wp2_with fail
  have R:=(ao.new w 136 #[.int .i64 5,.int .i64 4,.int .i64 r]).three;exact bodyPost_ret (v:=.agg #[.int .i64 5,.int .i64 4,.int .i64 r]) (by simp [results,Tryz.results320,go_sem,R]) rfl ⟨5,4,r,rfl,(by simp [dA]),(fun h=>by cases h),ae _ _⟩
 ·go_enter Tryz.func320,Tryz.ntmps320
  go_wp2_with fail
  have R:=(ao.new w 136 #[.int .i64 6,.int .i64 4,.int .i64 r]).three;exact bodyPost_ret (v:=.agg #[.int .i64 6,.int .i64 4,.int .i64 r]) (by simp [results,Tryz.results320,go_sem,R]) rfl ⟨6,4,r,rfl,(by simp [dA]),(fun h=>by cases h),ae _ _⟩
 ·go_enter Tryz.func320,Tryz.ntmps320
  go_wp2_with fail
  have R:=(ao.new w 136 #[.int .i64 7,.int .i64 0,.int .i64 r]).three;exact bodyPost_ret (v:=.agg #[.int .i64 7,.int .i64 0,.int .i64 r]) (by simp [results,Tryz.results320,go_sem,R]) rfl ⟨7,0,r,rfl,(by simp [dA]),(fun h=>by cases h),ae _ _⟩
 ·go_enter Tryz.func320,Tryz.ntmps320
  go_wp2_with fail
  have R:=(ao.new w 136 #[.int .i64 8,.int .i64 0,.int .i64 r]).three;exact bodyPost_ret (v:=.agg #[.int .i64 8,.int .i64 0,.int .i64 r]) (by simp [results,Tryz.results320,go_sem,R]) rfl ⟨8,0,r,rfl,(by simp [dA]),(fun h=>by cases h),ae _ _⟩
 ·go_enter Tryz.func320,Tryz.ntmps320
  go_wp2_with fail
  have R:=(ao.new w 136 #[.int .i64 0,.int .i64 0,.int .i64 0]).three;exact bodyPost_ret (v:=.agg #[.int .i64 0,.int .i64 0,.int .i64 0]) (by simp [results,Tryz.results320,go_sem,R]) rfl ⟨0,0,0,rfl,(by simp [dA]),(fun h=>by cases h),ae _ _⟩
 ·go_enter Tryz.func320,Tryz.ntmps320
  go_wp2_with fail
  have R:=(ao.new w 136 #[.int .i64 9,.int .i64 0,.int .i64 r]).three;exact bodyPost_ret (v:=.agg #[.int .i64 9,.int .i64 0,.int .i64 r]) (by simp [results,Tryz.results320,go_sem,R]) rfl ⟨9,0,r,rfl,(by simp [dA]),(fun _=>by have:=HB.out; omega),ae _ _⟩
 ·go_enter Tryz.func320,Tryz.ntmps320
  go_wp2_with fail
  have R:=(ao.new w 136 #[.int .i64 0,.int .i64 0,.int .i64 0]).three;exact bodyPost_ret (v:=.agg #[.int .i64 0,.int .i64 0,.int .i64 0]) (by simp [results,Tryz.results320,go_sem,R]) rfl ⟨0,0,0,rfl,(by simp [dA]),(fun h=>by cases h),ae _ _⟩
theorem GR (a b c d:Int) (w:World):(Op.equalIn 10000 170 (.agg #[.int .i64 a,.int .i64 b]) (.agg #[.int .i64 c,.int .i64 d])).run Tryz.prog w=.ok (a == c && b == d) w:=by
 have hu:Program.underlying Tryz.prog 170=some (.struct (Program.fieldsOf Tryz.prog 170)):=by kernel_rfl
 have hp:Program.stoodInHeld Tryz.prog 170=false:=by kernel_rfl
 have hq:∀ (x y:Int) w,(Op.equalIn 9999 3 (.int .i64 x) (.int .i64 y)).run Tryz.prog w=.ok (x == y) w:=fun x y w=>run_equalIn_int w 9998 3 .i64 .i64 x y Tryz.underlying3
 have hp1:∀ (x y:Int) w,(part 3 #[Value.int .i64 x,Value.int .i64 y] 0).run Tryz.prog w=.ok (.int .i64 x) w:=fun x y w=>by kernel_rfl
 have hp2:∀ (x y:Int) w,(part 3 #[Value.int .i64 x,Value.int .i64 y] 1).run Tryz.prog w=.ok (.int .i64 y) w:=fun x y w=>by kernel_rfl
 rw [show (10000:Nat)=9999 + 1 from rfl,run_equalIn_struct w 9999 _ _ _ hu hp];obtain ⟨f, g, hf, h1, h2, h3, h4, h5, h6⟩ : ∃ f g : Field, (Program.fieldsOf Tryz.prog 170).toList = [f, g] /\ f.name ≠ "_" /\ g.name ≠ "_" /\ f.type = 3 /\ g.type = 3 /\ f.offset = 0 /\ g.offset = 1 := ⟨(Program.fieldsOf Tryz.prog 170).toList.getD 0 default, (Program.fieldsOf Tryz.prog 170).toList.getD 1 default, (by kernel_rfl), of_decide_eq_true (by kernel_rfl), of_decide_eq_true (by kernel_rfl), (by kernel_rfl), (by kernel_rfl), (by kernel_rfl), (by kernel_rfl)⟩;rw [hf];simp only [Op.eqFields,h1,h2,h3,h4,h5,h6,ne_eq,not_false_eq_true,if_true,Sem.run_bind,hp1,hp2,hq,Result.andThen_ok];cases hac:(a == c) <;> cases hbd:(b == d) <;> simp [hp1,hp2,hq,hbd]
theorem rS (z:Int) (hz:1<=z/\z<=65535) (w:World):Calls Tryz.prog 91 #[.int .i64 z] w fun e w'=>(∃ b:Nat,e=.returned (.int .i64 (b:Int))/\1<=b/\b < 256)/\w=w':=by
 have e1:decide (z < 1)=false:=decide_eq_false (by omega);have e2:decide (65535 < z)=false:=decide_eq_false (by omega)
 by_cases h:65280<=z
 ·have e3:decide (65280<=z)=true:=decide_eq_true h
  go_enter Tryz.func91,Tryz.ntmps91
  go_wp2_with fail
  go_ret
  exact ⟨⟨129,rfl,by decide,by decide⟩,rfl⟩
 ·have e3:decide (65280<=z)=false:=decide_eq_false h
  obtain ⟨q,hq,hq2⟩:∃ q:Nat,z / 4096=(q:Int)/\q<=15:=⟨(z / 4096).toNat,by omega,by omega⟩;have h16:q=2\/q=3\/q=4\/q=8\/(q≠2/\q≠3/\q≠4/\q≠8):=by omega
  clear hz h hq2;rcases h16 with rfl | rfl | rfl | rfl | ⟨g2,g3,g4,g8⟩
  ·go_enter Tryz.func91,Tryz.ntmps91
   go_wp2_with fail
   go_ret
   exact ⟨⟨3,by kernel_rfl,by decide,by decide⟩,rfl⟩
  ·go_enter Tryz.func91,Tryz.ntmps91
   go_wp2_with fail
   go_ret
   exact ⟨⟨5,by kernel_rfl,by decide,by decide⟩,rfl⟩
  ·go_enter Tryz.func91,Tryz.ntmps91
   go_wp2_with fail
   go_ret
   exact ⟨⟨9,by kernel_rfl,by decide,by decide⟩,rfl⟩
  ·go_enter Tryz.func91,Tryz.ntmps91
   go_wp2_with fail
   go_ret
   exact ⟨⟨17,rfl,by decide,by decide⟩,rfl⟩
  ·have k2:((q:Int) == 2)=false:=by rw [beq_eq_false_iff_ne]; omega
   have k3:((q:Int) == 3)=false:=by rw [beq_eq_false_iff_ne]; omega
   have k4:((q:Int) == 4)=false:=by rw [beq_eq_false_iff_ne]; omega
   have k8:((q:Int) == 8)=false:=by rw [beq_eq_false_iff_ne]; omega
   clear g2 g3 g4 g8;go_enter Tryz.func91,Tryz.ntmps91
   go_wp2_with fail
   go_ret
   exact ⟨⟨1,rfl,by decide,by decide⟩,rfl⟩
section
variable {w:World} {F:Nat->Prop} {g:Nat} {act:List (Int×Int)}
theorem zI (h:lD w F g act) (x y:Int):Calls Tryz.prog 201 #[.pointer (some ⟨g,0,none⟩),.agg #[.int .i64 x,.int .i64 y]] w fun e w'=>(∃ k:Nat,k<=act.length/\e=.returned (.int .i64 (k:Int)))/\Below w.heap.size w w':=by
 obtain ⟨Aa,ca,Ah,nh,ch,xs,hs,h1,⟨h2,h3,h4⟩,h5,h6⟩:=h.ex;have hr:RS TO w w.heap.size 2 Aa act.length ca act:=⟨xs,h2.rv,h3⟩;have few:=h.few;have b0:=ae w (.cells #[.int .i64 x,.int .i64 y] 170);have K0:=ao.new w 170 #[.int .i64 x,.int .i64 y];have K:=h1.alloc (.cells #[.int .i64 x,.int .i64 y] 170);have F0:=K.three;have hr0:=hr.below b0 fun _ _ h=>h
 have hgl:=K.lt;clear h h2 h3 h4 h5 h6 hr h1;generalize hn:act.length=n at *;have HN:=zq hn; clear hn;go_enter Tryz.func201,Tryz.ntmps201
 go_wp2_with fail
 have hw0:w.heap.size < (w.alloc (.cells #[.int .i64 x,.int .i64 y] 170)).heap.size:=by rw [World.size_alloc]; omega
 generalize w.alloc (.cells #[.int .i64 x,.int .i64 y] 170)=w0 at *;go_loopw [12] (fun i wr=>∃ k:Nat,k<=n/\i=.int .i64 k/\Below w0.heap.size w0 wr) (fun i _=>n - (intOf i).toNat)
 case atStart=>exact ⟨0,by omega,rfl,Below.refl _ _⟩
 case round =>
  obtain ⟨k,hk,rfl,br⟩:=hrel;have d1:=aa b0 br lq
  by_cases hlt:k < n
  ·obtain ⟨f,hf⟩:∃ f,act[k]?=some f:=⟨_,List.getElem?_eq_getElem (by rw [HN.out]; exact hlt)⟩
   obtain ⟨b,o,cs,rfl,hb,hc,hcell⟩:=(hr0.below (br.mono b0.size) fun _ _ h=>h).at_ (by decide) hf;obtain ⟨u,v⟩:=f;have hcs:cs=[.int .i64 u,.int .i64 v]:=hc;subst hcs;have q0:=hcell 0 _ (by decide) rfl;have q1:=hcell 1 _ (by decide) rfl;rw [Nat.add_zero] at q0;have b2:=ae wr (.cells #[.int .i64 u,.int .i64 v] 170);have K2:=(ao.new wr 170 #[.int .i64 u,.int .i64 v]).two;have K1:=((K0.later br).alloc (.cells #[.int .i64 u,.int .i64 v] 170)).two;have KG:=((K.later br).alloc (.cells #[.int .i64 u,.int .i64 v] 170)).three;have EQ:=GR x y u v;obtain ⟨t1,ht1⟩:∃ t:Bool,(x == u)=t:=⟨_,rfl⟩;obtain ⟨t2,ht2⟩:∃ t:Bool,(y == v)=t:=⟨_,rfl⟩;have Ua:=aa br b2 lq;clear hc hcell hf F0;cases t1
   ·go_wp2_with fail
    go_roundw
    case rel=>exact ⟨k + 1,by omega,by go_num,Ua⟩
    case measure=>simp [intOf] <;> omega
   ·cases t2
    ·go_wp2_with fail
     go_roundw
     case rel=>exact ⟨k + 1,by omega,by go_num,Ua⟩
     case measure=>simp [intOf] <;> omega
    ·go_wp2_with fail
     go_ret
     exact ⟨⟨k,by omega,rfl⟩,aa d1 b2 lq⟩
  ·obtain rfl:k=n:=by omega
   have KG:=(K.later br).three;go_wp2_with fail
   go_ret
   exact ⟨⟨k,Nat.le_refl _,rfl⟩,d1⟩
end
end Nn
end Go.Proofs.YtijegngfclkdaaaGreatDoor
