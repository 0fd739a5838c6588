/-
  Piece 23 of the proof.
  Conditions: none.
-/
import Derived.WalkMore
import Derived.ScopeJumps
import Derived.StillTailTactics
import Derived.Test.YtijegngfclkdaaaGreatDoorQ18
set_option linter.unusedVariables false
set_option linter.unusedSimpArgs false
set_option maxHeartbeats 100000000
set_option maxRecDepth 100000
namespace Go.Proofs.YtijegngfclkdaaaGreatDoor
namespace Jr
def kL:eW:=⟨ia,0,0,false⟩
def sX (l:List eW):Nat×Bool:=bp l 0 (0,false) fun i=>(l.getD i kL).last.num
theorem Fm {l:List eW} {k:Nat} (h:k < l.length) (x:Nat×Bool) (num:Nat->Nat):bp (l.drop k) k x num=bp (l.drop (k + 1)) (k + 1) (if 0 < (l.getD k kL).count/\(x.2=false\/num x.1 < (l.getD k kL).last.num) then (k,true) else x) num:=by
 have:l.getD k kL=l[k]:=by simp [List.getD,List.getElem?_eq_getElem h]
 rw [this,List.drop_eq_getElem_cons h,bp];split <;> rfl
theorem Kv {l:List eW} {k:Nat} (h:l.length<=k) (x:Nat×Bool) (num:Nat->Nat):bp (l.drop k) k x num=x:=by
 rw [List.drop_of_length_le h];rfl
end Jr
section
open Go.RowKit
def RU (f:Jr.eW) (cs:List Value):Prop:=∃ A n c,cs=[.int .i64 (f.last.kind:Int),.int .u32 (f.last.num:Int),.slice A n c,.int .i64 (f.count:Int),.int .i64 (f.fin:Int),.bool f.clean]
section
variable {w w':World} {g:Nat} {t:TypeId} {a b c d e f:Value}
theorem ao.Md (h:ao w g t #[a,b,c,d,e,f]):(w.cell? ⟨g,0,none⟩=some a/\w.cell? ⟨g,1,none⟩=some b/\w.cell? ⟨g,2,none⟩=some c/\w.cell? ⟨g,3,none⟩=some d/\w.cell? ⟨g,4,none⟩=some e/\w.cell? ⟨g,5,none⟩=some f) /\
  (w.frozen? ⟨g,0,none⟩=false/\w.frozen? ⟨g,1,none⟩=false/\w.frozen? ⟨g,2,none⟩=false/\w.frozen? ⟨g,3,none⟩=false/\w.frozen? ⟨g,4,none⟩=false/\w.frozen? ⟨g,5,none⟩=false) :=
 ⟨⟨h.cell 0,h.cell 1,h.cell 2,h.cell 3,h.cell 4,h.cell 5⟩,h.frozen 0,h.frozen 1,h.frozen 2,h.frozen 3,h.frozen 4,h.frozen 5⟩
end
theorem RS.look {w:World} {B n c:Nat} {A:Option Addr} {fs:List Jr.eW} (h:RS RU w B 6 A n c fs) {i:Nat} (hi:i < n):∃ b o A1 n1 c1,A=some ⟨b,o,none⟩/\b < B/\w.cell? ⟨b,o + i * 6,none⟩=some (.int .i64 ((fs.getD i Jr.kL).last.kind:Int))/\w.cell? ⟨b,o + i * 6 + 1,none⟩=some (.int .u32 ((fs.getD i Jr.kL).last.num:Int))/\w.cell? ⟨b,o + i * 6 + 2,none⟩=some (.slice A1 n1 c1) /\
  w.cell? ⟨b,o + i * 6 + 3,none⟩=some (.int .i64 ((fs.getD i Jr.kL).count:Int))/\w.cell? ⟨b,o + i * 6 + 4,none⟩=some (.int .i64 ((fs.getD i Jr.kL).fin:Int))/\w.cell? ⟨b,o + i * 6 + 5,none⟩=some (.bool (fs.getD i Jr.kL).clean):=by
 have hl:=h.len (by decide);have hf:fs[i]?=some (fs.getD i Jr.kL):=by simp [List.getD,List.getElem?_eq_getElem (show i < fs.length by omega)]
 obtain ⟨b,o,cs,rfl,hb,⟨A1,n1,c1,rfl⟩,hc⟩:=h.at_ (by decide) hf;exact ⟨b,o,A1,n1,c1,rfl,hb,hc 0 _ (by decide) rfl,hc 1 _ (by decide) rfl,hc 2 _ (by decide) rfl,hc 3 _ (by decide) rfl,hc 4 _ (by decide) rfl,hc 5 _ (by decide) rfl⟩
theorem pX {A:Option Addr} {n c B:Nat} {fs:List Jr.eW} (w:World) (h:RS RU w B 6 A n c fs) (hB:B<=w.heap.size) :
  Calls Tryz.prog 187 #[.slice A n c] w fun e w'=>e=.returned (.tuple #[.int .i64 ((Jr.sX fs).1:Int),.bool (Jr.sX fs).2])/\Below w.heap.size w w':=by
 have hl:=h.len (by decide);have hn:=h.lt;go_enter Tryz.func187,Tryz.ntmps187
 go_wp2_with fail
 go_loopw [4,5,10] (fun a u i wr=>∃ (k p:Nat) (x:Bool),k<=n/\p<=k/\(x=true->p < n)/\i=.int .i64 k/\a=.int .i64 (p:Int)/\u=.bool x/\Hid (Jr.sX fs=Jr.bp (fs.drop k) k (p,x) fun i=>(fs.getD i Jr.kL).last.num)/\Below w.heap.size w wr) (fun _ _ i _=>n - (intOf i).toNat)
 case atStart=>exact ⟨0,0,false,by omega,by omega,(fun h=>by cases h),rfl,rfl,rfl,zq rfl,Below.refl _ _⟩
 case round =>
  obtain ⟨k,p,x,hk,hpk,hpx,rfl,rfl,rfl,HE,hbel⟩:=hrel
  by_cases hlt:k < n
  ·have hw:=h.below (R':=RU) (hbel.mono hB) fun _ _ h=>h
   obtain ⟨b,o,A1,n1,c1,rfl,eT,q0,q1,q2,q3,q4,q5⟩:=hw.look hlt;have hst:=Jr.Fm (l:=fs) (k:=k) (by omega) (p,x) fun i=>(fs.getD i Jr.kL).last.num
   rw [hst] at HE;have K:=(ao.new wr 265 #[.int .i64 ((fs.getD k Jr.kL).last.kind:Int),.int .u32 ((fs.getD k Jr.kL).last.num:Int),.slice A1 n1 c1,.int .i64 ((fs.getD k Jr.kL).count:Int),.int .i64 ((fs.getD k Jr.kL).fin:Int),.bool (fs.getD k Jr.kL).clean]).Md;have b1:=ae wr (.cells #[.int .i64 ((fs.getD k Jr.kL).last.kind:Int),.int .u32 ((fs.getD k Jr.kL).last.num:Int),.slice A1 n1 c1,.int .i64 ((fs.getD k Jr.kL).count:Int),.int .i64 ((fs.getD k Jr.kL).fin:Int),.bool (fs.getD k Jr.kL).clean] 265);have bb:=aa hbel b1 lq;have QP:x=true->wr.cell? ⟨b,o + p * 6 + 1,none⟩=some (.int .u32 ((fs.getD p Jr.kL).last.num:Int)):=fun hx=>by
    obtain ⟨b',o',_,_,_,e1,hb',_,z1,_⟩:=hw.look (hpx hx);injection e1 with e1
    injection e1 with e1 e2
    subst e1 e2;exact z1
   dsimp only at HE;generalize (fs.getD k Jr.kL).last.kind=z1 at *;generalize (fs.getD k Jr.kL).last.num=z2 at *;generalize (fs.getD k Jr.kL).count=z3 at *;generalize (fs.getD k Jr.kL).fin=z4 at *;generalize (fs.getD k Jr.kL).clean=z5 at *;generalize (fs.getD p Jr.kL).last.num=v at *;have i0:(0:Int)<=(p:Int):=by omega
   have hbw:b < wr.heap.size:=by have:=hbel.size; omega
   clear hst h hw hl
   by_cases hc:0 < z3
   ·have e1:decide ((z3:Int) > 0)=true:=decide_eq_true (by omega)
    have Sy:decide (0 < z3)=true:=decide_eq_true hc;cases x with
    | false =>
     rw [if_pos ⟨hc,.inl rfl⟩] at HE;clear QP hc hpx;go_wp2_with fail
     go_quiet (fail)
     go_wp2_with fail
     go_roundw
     case rel=>exact ⟨k + 1,k,true,by omega,by omega,fun _=>hlt,by go_num,rfl,rfl,HE,below_drewN bb _⟩
     case measure=>simp [intOf] <;> omega
    | true =>
     have qp:=QP rfl;have qp2:=(b1.cell (p:=⟨b,o + p * 6 + 1,none⟩) hbw).trans qp;have i1:(p:Int) < (n:Int):=by have:=hpx rfl; omega
     clear QP
     by_cases hv:v < z2
     ·have e2:decide ((z2:Int) > (v:Int))=true:=decide_eq_true (by omega)
      have e2':decide (v < z2)=true:=decide_eq_true hv;rw [if_pos ⟨hc,.inr hv⟩] at HE;clear hc hv hpx;go_wp2_with fail
      go_quiet (fail)
      go_wp2_with fail
      go_roundw
      case rel=>exact ⟨k + 1,k,true,by omega,by omega,fun _=>hlt,by go_num,rfl,rfl,HE,below_drewN bb _⟩
      case measure=>simp [intOf] <;> omega
     ·have e2:decide ((z2:Int) > (v:Int))=false:=decide_eq_false (by omega)
      have e2':decide (v < z2)=false:=decide_eq_false hv;rw [if_neg (fun hh=>by rcases hh.2 with h | h; cases h; exact hv h)] at HE;clear hc hv;go_wp2_with fail
      go_quiet (fail)
      go_wp2_with fail
      go_roundw
      case rel=>exact ⟨k + 1,p,true,by omega,by omega,fun _=>by have:=hpx trivial; omega,by go_num,rfl,rfl,HE,below_drewN bb _⟩
      case measure=>simp [intOf] <;> omega
   ·have e1:decide ((z3:Int) > 0)=false:=decide_eq_false (by omega)
    have Sy:decide (0 < z3)=false:=decide_eq_false hc;rw [if_neg (fun hh=>hc hh.1)] at HE;clear hc QP;go_wp2_with fail
    go_quiet (fail)
    go_wp2_with fail
    go_roundw
    case rel=>exact ⟨k + 1,p,x,by omega,by omega,hpx,by go_num,rfl,rfl,HE,below_drewN bb _⟩
    case measure=>simp [intOf] <;> omega
  ·obtain rfl:k=n:=by omega
   have HE2:Hid (Jr.sX fs=(p,x)):=zq (by rw [HE.out,Jr.Kv (by omega)]);clear HE h hl;go_wp2_with fail
   go_ret2
   exact ⟨by rw [HE2.out]; rfl,hbel⟩
def iv (z:Int):Value:=.int .i64 z
def Pf (f:Jr.eW) (A:Option Addr) (n c:Nat):Value:=.agg #[.int .i64 (f.last.kind:Int),.int .u32 (f.last.num:Int),.slice A n c,.int .i64 (f.count:Int),.int .i64 (f.fin:Int),.bool f.clean]
def mq:Array Value:=#[.int .i64 0,.int .u32 0,.slice none 0 0]
end
namespace Jr
open Go.RowKit Go.Proofs.YtijegngfclkdaaaGreatDoor
def Ok (r:Rec):Prop:=0 < r.num/\r.num < 4294967296/\((r.kind=1/\r.data.length<=960)\/(r.kind=2/\r.data=[]))
theorem ph {l:List UInt8} (h:bV l=true) {i:Nat} (hi:i < l.length):l.getD i 0=255:=by
 unfold bV at h;rw [List.all_eq_true] at h;have:=h (l[i]) (List.getElem_mem hi);rw [List.getD,List.getElem?_eq_getElem hi];simpa using this
theorem uk {l:List UInt8} (h:bV l=true):l.getD 0 0≠87:=by
 cases l with
 | nil=>decide
 | cons x r =>
  have:=ph h (i:=0) (by simp);rw [this];decide
end Jr
section
open Go.RowKit
def TG (f:Jr.eW) (w:World) (e:Ending) (w':World):Prop:=∃ A c,e=.returned (Pf f A f.last.data.length c)/\OB w' w.heap.size A f.last.data.length c f.last.data/\Below w.heap.size w w'
def Vc (r:Jr.Rec) (A:Option Addr) (d k e:Nat) (z:Bool):Array Value:=#[.int .i64 (r.kind:Int),.int .u32 (r.num:Int),.slice A r.data.length d,.int .i64 (k:Int),.int .i64 (e:Int),.bool z]
structure TJ (b:List UInt8) (n:Nat) (w wr:World) (k e:Nat) (r:Jr.Rec) (A:Option Addr) (d f:Nat):Prop where
 res:Jr.Cf b b.length Jr.ia 0 0=Jr.Cf b f r k e
 fuel:n<=f + e
 en:e<=n
 ke:k<=e
 num:r.num < 4294967296
 two:ao wr w.heap.size 265 #[.int .i64 0,.int .u32 0,.slice none 0 0,.int .i64 0,.int .i64 0,.bool false]
 aP:ao wr (w.heap.size + 1) 265 (Vc r A d k e false)
 own:OB wr (w.heap.size + 2) A r.data.length d r.data
 SA:Below w.heap.size w wr
theorem TJ.done {b:List UInt8} {n:Nat} {w wr:World} {k e:Nat} {r:Jr.Rec} {A:Option Addr} {d f:Nat} (h:TJ b n w wr k e r A d f) (hz:Jr.gP b e=none):Jr.Cf b b.length Jr.ia 0 0=(r,k,e):=by
 rw [h.res];cases f with
 | zero=>rfl
 | succ f=>rw [Jr.Cf,hz]
theorem Ox {b:List UInt8} {r:Jr.Rec} {k e:Nat} (h:Jr.Cf b b.length Jr.ia 0 0=(r,k,e)):Jr.vI b=⟨r,k,e,bV (b.drop e)⟩:=by
 unfold Jr.vI;rw [h]
section
variable {w w':World} {g:Nat} {t:TypeId} {a b c d e f:Value}
theorem ao.GX (h:ao w g t #[a,b,c,d,e,f]) (a' b' c' d' e' f':Value):ao ((((((w.setCell ⟨g,0,none⟩ a').setCell ⟨g,1,none⟩ b').setCell ⟨g,2,none⟩ c').setCell ⟨g,3,none⟩ d').setCell ⟨g,4,none⟩ e').setCell ⟨g,5,none⟩ f') g t #[a',b',c',d',e',f']:=(((((h.aJ 0 a').aJ 1 b').aJ 2 c').aJ 3 d').aJ 4 e').aJ 5 f'
theorem Mv.RZ (w:World) (g:Nat) (a b c d e f:Value):Mv (fun q=>q=g) w ((((((w.setCell ⟨g,0,none⟩ a).setCell ⟨g,1,none⟩ b).setCell ⟨g,2,none⟩ c).setCell ⟨g,3,none⟩ d).setCell ⟨g,4,none⟩ e).setCell ⟨g,5,none⟩ f) :=
 (Mv.Rq w g 0 1 2 a b c).trans (Mv.Rq _ g 3 4 5 d e f) fun _ _ e=>e
end
theorem OB.Xe {w:World} {base n c g:Nat} {A:Option Addr} {l:List UInt8} (h:OB w base A n c l) (hg:g < base) (a b c' d e f:Value):OB ((((((w.setCell ⟨g,0,none⟩ a).setCell ⟨g,1,none⟩ b).setCell ⟨g,2,none⟩ c').setCell ⟨g,3,none⟩ d).setCell ⟨g,4,none⟩ e).setCell ⟨g,5,none⟩ f) base A n c l:=OB.wj (OB.wj h hg 0 1 2 a b c') hg 3 4 5 d e f
theorem Oi {b:List UInt8} {w w4:World} {r:Jr.Rec} {k e d:Nat} {A:Option Addr} {z0 z1 z2 z3 z4 z5:Value} (hd:Jr.Cf b b.length Jr.ia 0 0=(r,k,e)) (K:ao w4 w.heap.size 265 #[z0,z1,z2,z3,z4,z5]) (O:OB w4 (w.heap.size + 2) A r.data.length d r.data) (hb:Below w.heap.size w w4) :
  ∃ w',(((((w4.setCell ⟨w.heap.size,0,none⟩ (.int .i64 (r.kind:Int))).setCell ⟨w.heap.size,1,none⟩ (.int .u32 (r.num:Int))).setCell ⟨w.heap.size,2,none⟩ (.slice A r.data.length d)).setCell ⟨w.heap.size,3,none⟩ (.int .i64 (k:Int))).setCell ⟨w.heap.size,4,none⟩ (.int .i64 (e:Int))).setCell ⟨w.heap.size,5,none⟩ (.bool (bV (b.drop e)))=w' /\
   (w'.cell? ⟨w.heap.size,0,none⟩=some (.int .i64 (r.kind:Int))/\w'.cell? ⟨w.heap.size,1,none⟩=some (.int .u32 (r.num:Int))/\w'.cell? ⟨w.heap.size,2,none⟩=some (.slice A r.data.length d)/\w'.cell? ⟨w.heap.size,3,none⟩=some (.int .i64 (k:Int))/\w'.cell? ⟨w.heap.size,4,none⟩=some (.int .i64 (e:Int))/\w'.cell? ⟨w.heap.size,5,none⟩=some (.bool (bV (b.drop e)))) /\
   TG (Jr.vI b) w (.returned (.agg #[.int .i64 (r.kind:Int),.int .u32 (r.num:Int),.slice A r.data.length d,.int .i64 (k:Int),.int .i64 (e:Int),.bool (bV (b.drop e))])) w':=by
 have KZ:=K.GX (.int .i64 (r.kind:Int)) (.int .u32 (r.num:Int)) (.slice A r.data.length d) (.int .i64 (k:Int)) (.int .i64 (e:Int)) (.bool (bV (b.drop e)));have m:=Mv.RZ w4 w.heap.size (.int .i64 (r.kind:Int)) (.int .u32 (r.num:Int)) (.slice A r.data.length d) (.int .i64 (k:Int)) (.int .i64 (e:Int)) (.bool (bV (b.drop e)));refine ⟨_,rfl,KZ.Md.1,?_⟩;rw [Ox hd];exact ⟨A,d,rfl,(O.Xe (by omega) _ _ _ _ _ _).more (by omega),hb.trans (m.below hb.size (by intro q e; omega))⟩
theorem U5:ET Tryz.prog 259 265 6 64 (.agg #[.int .i64 0,.int .u32 0,.slice none 0 0,.int .i64 0,.int .i64 0,.bool false]):=⟨Tryz.underlying259,info_parts (by kernel_rfl),rfl,by decide⟩
def Pp (f:Jr.eW) (A:Option Addr) (c:Nat):List Value:=[.int .i64 (f.last.kind:Int),.int .u32 (f.last.num:Int),.slice A f.last.data.length c,.int .i64 (f.count:Int),.int .i64 (f.fin:Int),.bool f.clean]
theorem xS (f:Jr.eW) (A:Option Addr) (c:Nat):∀ u∈Pp f A c,u.oneCell'=true:=by
 intro u hu;simp only [Pp,List.mem_cons,List.not_mem_nil,or_false] at hu;rcases hu with rfl | rfl | rfl | rfl | rfl | rfl <;> rfl
def xn (w:World) (base:Nat) (f:Jr.eW) (cs:List Value):Prop:=∃ A c,cs=Pp f A c/\OB w base A f.last.data.length c f.last.data
def MP (w:World) (F:Nat->Prop) (f:Jr.eW) (cs:List Value):Prop:=∃ A c,cs=Pp f A c/\iX w F A f.last.data.length c f.last.data
section
variable {w w':World} {base base' g i size n c:Nat} {t e':TypeId} {f:Jr.eW} {cs xs:List Value} {A:Option Addr} {ds:Array Value} {u:Value} {F G:Nat->Prop}
theorem xn.below (h:xn w base f cs) (hb:Below w.heap.size w w'):xn w' base f cs:=by obtain ⟨A,c,h1,h2⟩:=h; exact ⟨A,c,h1,h2.below hb⟩
theorem xn.beside (h:xn w base f cs) (h':OV w base' e' size A n c xs) (hne:e'≠5) (hg:w.grownBy w' (Value.slice A n c).ownBlock):xn w' base f cs:=by obtain ⟨A1,c1,h1,h2⟩:=h; exact ⟨A1,c1,h1,h2.beside h' hne hg⟩
theorem xn.off (h:xn w base f cs) (hb:ao w g t ds) (ht:t≠5):xn (w.setCell ⟨g,i,none⟩ u) base f cs:=by obtain ⟨A1,c1,h1,h2⟩:=h; exact ⟨A1,c1,h1,h2.off hb ht⟩
theorem xn.q (h:xn w base f cs):RU f cs:=by obtain ⟨A1,c1,h1,_⟩:=h; exact ⟨A1,_,c1,h1⟩
theorem MP.mv (h:MP w F f cs) (hm:Mv G w w') (hd:∀ b,b < w.heap.size->F b->¬ G b):MP w' F f cs:=by obtain ⟨A,c,h1,h2⟩:=h; exact ⟨A,c,h1,h2.mv hm hd⟩
theorem MP.mono (h:MP w F f cs) (hi:∀ b,b < w.heap.size->F b->G b):MP w G f cs:=by obtain ⟨A,c,h1,h2⟩:=h; exact ⟨A,c,h1,h2.mono hi⟩
end
def Ra (A:Option Addr) (k c now:Nat) (has:Bool) (gf:Nat) (dead:Bool):Array Value:=#[.slice A k c,.int .i64 (now:Int),.bool has,.pointer (some ⟨gf,0,none⟩),.bool dead]
structure tO (w:World) (base gj:Nat) (A:Option Addr) (k c:Nat) (L:List Jr.eW) (now:Nat) (has:Bool) (gf:Nat) (dead:Bool):Prop where
 gb:base<=gj
 aP:ao w gj 263 (Ra A k c now has gf dead)
 row:OS (xn w base) w base 265 6 A k c L
structure vQ (w:World) (F:Nat->Prop) (gj gl:Nat) (A:Option Addr) (c:Nat) (xs:List Value) (L:List Jr.eW) (now:Nat) (has:Bool) (gf:Nat) (dead:Bool):Prop where
 fg:F gj
 ne:gj≠gl
 aP:ao w gj 263 (Ra A L.length c now has gf dead)
 own:OV w 0 265 6 A L.length c xs
 at_:∀ k,(Value.slice A L.length c).ownBlock=some k->k=gl/\F gl
 rows:Rows (MP w (Fx F gj gl)) 6 L xs
section
variable {w w':World} {base gj gl k c now gf:Nat} {A:Option Addr} {L:List Jr.eW} {has dead:Bool} {xs:List Value} {F G:Nat->Prop}
theorem tO.below (h:tO w base gj A k c L now has gf dead) (hb:Below w.heap.size w w'):tO w' base gj A k c L now has gf dead:=⟨h.gb,h.aP.later hb,OS.below h.row hb fun _ _ k=>k.below hb⟩
theorem tO.add (h:tO w base gj A k c L now has gf dead) {A1:Option Addr} {k1 c1:Nat} {L':List Jr.eW} (hrow:OS (xn w' base) w' base 265 6 A1 k1 c1 L') (hg:w.grownBy w' (Value.slice A k c).ownBlock) :
  tO (w'.setCell ⟨gj,0,none⟩ (.slice A1 k1 c1)) base gj A1 k1 c1 L' now has gf dead:=by
 have hr:=h.row;obtain ⟨Xp,r0,_⟩:=hr;have hb:ao w' gj 263 (Ra A k c now has gf dead):=h.aP.beside r0 (by decide) hg;refine ⟨h.gb,hb.aJ 0 _,?_⟩;obtain ⟨ys,o1,o2⟩:=hrow;exact ⟨ys,o1.off hb (by decide),o2.imp fun _ _ k=>k.off hb (by decide)⟩
theorem tO.aJ (h:tO w base gj A k c L now has gf dead) {i:Nat} {u:Value} {now':Nat} {has' zQ:Bool} (hc:(Ra A k c now has gf dead).setIfInBounds i u=Ra A k c now' has' gf zQ):tO (w.setCell ⟨gj,i,none⟩ u) base gj A k c L now' has' gf zQ:=by
 refine ⟨h.gb,by rw [<- hc]; exact h.aP.aJ i u,?_⟩;obtain ⟨ys,o1,o2⟩:=h.row;exact ⟨ys,o1.off h.aP (by decide),o2.imp fun _ _ k=>k.off h.aP (by decide)⟩
theorem tO.jJ (h:tO w base gj A k c L now has gf dead):(w.cell? ⟨gj,0,none⟩=some (.slice A k c)/\w.cell? ⟨gj,1,none⟩=some (.int .i64 (now:Int))/\w.cell? ⟨gj,2,none⟩=some (.bool has)/\w.cell? ⟨gj,3,none⟩=some (.pointer (some ⟨gf,0,none⟩))/\w.cell? ⟨gj,4,none⟩=some (.bool dead)) /\
  (w.frozen? ⟨gj,0,none⟩=false/\w.frozen? ⟨gj,1,none⟩=false/\w.frozen? ⟨gj,2,none⟩=false/\w.frozen? ⟨gj,3,none⟩=false/\w.frozen? ⟨gj,4,none⟩=false) :=
 ⟨⟨h.aP.cell 0,h.aP.cell 1,h.aP.cell 2,h.aP.cell 3,h.aP.cell 4⟩,h.aP.frozen 0,h.aP.frozen 1,h.aP.frozen 2,h.aP.frozen 3,h.aP.frozen 4⟩
theorem tO.looks (h:tO w base gj A k c L now has gf dead):RS RU w w.heap.size 6 A k c L:=by
 obtain ⟨ys,o1,o2⟩:=h.row;exact ⟨ys,o1.rv,o2.imp fun _ _ k=>k.q⟩
theorem tO.made (h:tO w base gj A k c L now has gf dead) (hk:L.length=k) (h0:0 < k):∃ gl xs,vQ w (fun q=>base<=q) gj gl A c xs L now has gf dead:=by
 obtain ⟨xs,r1,r2⟩:=h.row;subst hk;obtain ⟨gl,e,hgl,ZT⟩:=r1.head h0;subst e;have hne:gj≠gl:=fun e=>bE r1 h.aP (by decide) (by rw [e]; rfl)
 refine ⟨gl,xs,{ fg:=h.gb,ne:=hne,aP:=h.aP,own:=r1.more (Nat.zero_le _),at_:=fun k hk=>?_,rows:=r2.imp fun f cs hf=>?_ }⟩
 ·have:k=gl:=by simpa [Value.ownBlock] using hk.symm
  exact ⟨this,hgl⟩
 ·obtain ⟨A1,c1,e1,e2⟩:=hf
  refine ⟨A1,c1,e1,e2.Lx fun k hk=>⟨(e2.lt k hk).1,fun e=>bE e2 h.aP (by decide) (by rw [hk,e]),fun e=>?_⟩⟩;rcases fP r1 e2 (by decide) with h5 | h5
  ·rw [h5] at hk; cases hk
  ·exact h5 (by rw [hk,e]; rfl)
theorem vQ.mv (h:vQ w F gj gl A c xs L now has gf dead) (hm:Mv G w w') (hd:∀ b,b < w.heap.size->F b->¬ G b):vQ w' F gj gl A c xs L now has gf dead :=
 {fg:=h.fg,ne:=h.ne,aP:=h.aP.mv hm (hd gj h.aP.lt h.fg)
  own:=by
   refine ⟨h.own.1,?_⟩;rcases h.own.2 with h2 | ⟨k,cap,cur,hv,hg,hh,r⟩
   ·exact .inl h2
   ·have hk:=h.at_ k (by rw [hv]; rfl)
    have hlt:k < w.heap.size:=(Array.getElem?_eq_some_iff.1 hh).1;exact .inr ⟨k,cap,cur,hv,hg,(hm.block k hlt (hd k hlt (by rw [hk.1]; exact hk.2))).trans hh,r⟩
  at_:=h.at_,rows:=h.rows.imp fun _ _ k=>k.mv hm fun b hb hf=>hd b hb hf.1 }
theorem vQ.below (h:vQ w F gj gl A c xs L now has gf dead) (hb:Below w.heap.size w w'):vQ w' F gj gl A c xs L now has gf dead:=h.mv (Mv.aq hb fun _=>False) fun _ _ _ h=>h
theorem vQ.mono (h:vQ w F gj gl A c xs L now has gf dead) (hi:∀ b,b < w.heap.size->F b->G b):vQ w G gj gl A c xs L now has gf dead :=
 {fg:=hi gj h.aP.lt h.fg,ne:=h.ne,aP:=h.aP,own:=h.own
  at_:=fun k hk=>⟨(h.at_ k hk).1,hi gl (by have:=(h.own.lt k hk).2; rw [(h.at_ k hk).1] at this; exact this) (h.at_ k hk).2⟩
  rows:=h.rows.imp fun _ _ k=>k.mono fun b hb hf=>⟨hi b hb hf.1,hf.2⟩ }
theorem vQ.jJ (h:vQ w F gj gl A c xs L now has gf dead):(w.cell? ⟨gj,0,none⟩=some (.slice A L.length c)/\w.cell? ⟨gj,1,none⟩=some (.int .i64 (now:Int))/\w.cell? ⟨gj,2,none⟩=some (.bool has)/\w.cell? ⟨gj,3,none⟩=some (.pointer (some ⟨gf,0,none⟩))/\w.cell? ⟨gj,4,none⟩=some (.bool dead)) /\
  (w.frozen? ⟨gj,0,none⟩=false/\w.frozen? ⟨gj,1,none⟩=false/\w.frozen? ⟨gj,2,none⟩=false/\w.frozen? ⟨gj,3,none⟩=false/\w.frozen? ⟨gj,4,none⟩=false) :=
 ⟨⟨h.aP.cell 0,h.aP.cell 1,h.aP.cell 2,h.aP.cell 3,h.aP.cell 4⟩,h.aP.frozen 0,h.aP.frozen 1,h.aP.frozen 2,h.aP.frozen 3,h.aP.frozen 4⟩
end
def gR (f:vO) (i:Nat):List UInt8:=(f.b.drop (i * 1024)).take 1024
def eI (f:vO) (k:Nat):List Jr.eW:=(List.range k).map fun i=>Jr.vI (gR f i)
theorem pO (f:vO) (k:Nat):(eI f k).length=k:=by simp [eI]
theorem uT (f:vO) (k:Nat):eI f (k + 1)=eI f k ++ [Jr.vI (gR f k)]:=by simp [eI,List.range_succ]
open Go.Sort
section
variable {P:Program} {Q:Exit->Act->World->Prop} {md:Region.Mode} {S:World->Prop}
theorem kN {l:List Oper} (i:Nat) (fuel:Nat) {listed:Array Bool} {a:Act} {w:World} (hi:i < l.length)
  (h:wpList P l.toArray (Qn (fun a' w'=>jm P md l Q S fuel (listed.setIfInBounds i true) a' w') Q) [nth l i] a w):wpOp P l.toArray Q i (fun a' w'=>S w'/\wpAnyH P md l.toArray Q S fuel (listed.setIfInBounds i true) a' w') a w:=by
 have ho:l.toArray[i]?=some (nth l i):=by rw [List.getElem?_toArray]; exact fU l i hi
 have fin:∀ a' w',jm P md l Q S fuel (listed.setIfInBounds i true) a' w'->S w'/\wpAnyH P md l.toArray Q S fuel (listed.setIfInBounds i true) a' w':=fun a' w' ⟨S',h1,h2,h3⟩=>⟨h2 _ h1,lW h2 _ _ _ _ h3⟩
 refine wpOp_mono fin ?_;unfold wpOp;simp only [ho];simp only [wpList] at h
 by_cases hw:Region.wanted (nth l i) (yielded l.toArray a.tmps)=true
 ·rw [if_pos hw] at h ⊢
  rcases h with h | ⟨h1,a0,w0,h2⟩
  ·exact .inl h
  ·exact .inr ⟨h1,a0,w0,h2⟩
 ·rw [if_neg hw] at h ⊢
  exact h
theorem ql {l:List Oper} (i j:Nat) {n:Nat} (fuel:Nat) {listed:Array Bool} {a:Act} {w:World} (hn:n=fuel + 1) (hr:Region.ready md l.toArray listed=[i,j]) (hi:i < l.length) (hj:j < l.length)
  (h1:wpList P l.toArray (Qn (fun a' w'=>jm P md l Q S fuel (listed.setIfInBounds i true) a' w') Q) [nth l i] a w)
  (h2:wpList P l.toArray (Qn (fun a' w'=>jm P md l Q S fuel (listed.setIfInBounds j true) a' w') Q) [nth l j] a w):wpAnyH P md l.toArray Q S n listed a w:=by
 subst hn;refine ⟨(fun h0=>by rw [hr] at h0; cases h0),fun k hk=>?_⟩;rw [hr] at hk;simp only [List.mem_cons,List.not_mem_nil,or_false] at hk;rcases hk with rfl | rfl
 ·exact kN _ _ hi h1
 ·exact kN _ _ hj h2
end
end
section
open Go.RowKit
theorem QN:ET Tryz.prog 91 3 1 8 (.int .i64 0):=⟨Tryz.underlying91,info_parts (by kernel_rfl),rfl,by decide⟩
theorem qR (n:Nat):((madeCells (Value.int .i64 0).cells (n * 1)).toList.take (n * 1))=(List.replicate n 0).map nv:=by
 have:(Value.int .i64 0).cells=#[.int .i64 0]:=rfl;rw [this,toList_madeCells_one];simp [nv]
theorem Ec {w:World} {g:Nat} {A A':Option Addr} {n m c c':Nat} {b:List UInt8} {z:Int} {base:Nat}
  (hb:base<=g) (hg:ao w g 93 #[.slice A n c,.slice A' m c',.int .i64 z,.bool false,.int .i64 (-1),.int .u32 0,.int .i64 0]) (h1:OB w base A n c b) (h2:OV w base 3 1 A' m c' ((List.replicate m 0).map nv)) :
  m7 w base g A n c A' m c' ⟨b,List.replicate m 0,z,false,-1,0,0⟩:=⟨hb,hg,h1,h2⟩
theorem CD {A:Option Addr} {n c B:Nat} {b:List UInt8} (w:World) (m:Nat) (z:Int) (hb:RB w B A n c b) (hB:B<=w.heap.size) (hm1:1<=m) (T_:m<=8) (hn:n=m * 1024) (hz:1<=z) :
  Calls Tryz.prog 34 #[.slice A n c,.int .i64 z] w fun e w'=>∃ g A1 c1 A2,e=.returned (.pointer (some ⟨g,0,none⟩))/\Below w.heap.size w w'/\m7 w' w.heap.size g A1 n c1 A2 m m ⟨b,List.replicate m 0,z,false,-1,0,0⟩:=by
 have q0:((n:Int)).tdiv 1024=(m:Int):=by rw [Int.tdiv_eq_ediv_of_nonneg (by omega)]; omega
 have q1:(n:Int) / 1024=(m:Int):=by omega
 have q2:IntKind.i64.wrap (m:Int)=(m:Int):=IntWalk.i64_in _ (by omega);have q3:IntKind.i64.wrap ((m:Int) * 1024)=(n:Int):=by rw [IntWalk.i64_in _ (by omega)]; omega
 have q4:wrap64 (m:Int)=(m:Int):=IntWalk.wrap64_in _ (by omega);have q5:wrap64 ((m:Int) * 1024)=(n:Int):=by rw [IntWalk.wrap64_in _ (by omega)]; omega
 have e1:decide (m < 1)=false:=decide_eq_false (by omega);have e2:decide (8 < m)=false:=decide_eq_false (by omega);have e3:decide (z < 1)=false:=decide_eq_false (by omega);have e4:((n:Int) != (n:Int))=false:=by simp
 have hn1:n<=140737488355328:=by omega
 have XF:8 * m<=281474976710656:=by omega
 have SF:m<=9223372036854775807:=by omega
 have i1:¬ (m:Int) < 1:=by omega
 have i2:¬ (m:Int) > 8:=by omega
 have e5:decide ((m:Int) < 1)=false:=decide_eq_false i1;have e6:decide ((m:Int) > 8)=false:=decide_eq_false i2;have HB:=zq hb;clear hb hm1 T_ hn hz i1 i2;go_enter Tryz.func34,Tryz.ntmps34
 go_wp2_with fail
 refine aN (by kernel_rfl) ?_;refine ai (by kernel_rfl) 5 (af _) [0,2,4] rfl (by kernel_rfl) ?_;simp only [aj,nth]
 repeat (go_big_quiet_step (fail))
 refine wpQuiet_nil ?_;have hbd:=af w;refine ql 1 3 4 rfl (by kernel_rfl) (by decide) (by decide) ?_ ?_
 ·simp only [nth]
  go_wp2_with (at_builtin; refine bU od rfl (.const (.slice none 0 0)) (.tmp 26) rfl rfl rfl B (HB.out.drew) hn1 hB ?_; intro A1 c1 w1 o1 b1)
  refine ax (hbd.trans b1) ?_;refine aH 3 3 rfl (by kernel_rfl) (by decide) ?_;simp only [nth];have b1':Below w.heap.size w w1:=hbd.trans b1;have Mn:OB w1 w.heap.size A1 n c1 b:=o1;go_wp2_with (at_make; refine ma QN rfl (.tmp 28) (.tmp 28) rfl .i64 .i64 m m rfl rfl lq XF SF w.heap.size b1.size ?_; intro w2 o2 g2 s2; clear s2)
  have b2:Below w1.heap.size w1 w2:=(Below.refl _ w1).grown g2 lq fun k hk=>by cases hk
  rw [qR] at o2;refine ax b2 ?_;refine ai (by kernel_rfl) 2 (Below.refl _ _) [5] rfl (by kernel_rfl) ?_;simp only [aj,nth]
  repeat (go_big_quiet_step (fail))
  refine wpQuiet_nil ?_;refine aH 6 1 rfl (by kernel_rfl) (by decide) ?_;simp only [nth];have b3:=ae w2 (.cells #[.slice A1 n c1,.slice (some ⟨w1.heap.size,0,none⟩) m m,.int .i64 z,.bool false,.int .i64 (-1),.int .u32 0,.int .i64 0] 93);have K3:=ao.new w2 93 #[.slice A1 n c1,.slice (some ⟨w1.heap.size,0,none⟩) m m,.int .i64 z,.bool false,.int .i64 (-1),.int .u32 0,.int .i64 0];have b13:=aa b1' b2 lq;have F3:=Ec (base:=w.heap.size) b13.size K3 ((Mn.below b2).below b3) (o2.below b3);go_wp2_with fail
  refine ax b3 ?_;refine ai (by kernel_rfl) 0 (Below.refl _ _) [7] rfl (by kernel_rfl) ?_;simp only [aj,nth]
  repeat (go_big_quiet_step (fail))
  refine wpQuiet_nil ?_;refine aK (by kernel_rfl) ?_;go_wp2_with fail
  go_ret
  exact ⟨_,_,_,_,rfl,aa b13 b3 lq,F3⟩
 ·simp only [nth]
  go_wp2_with (at_make; refine ma QN rfl (.tmp 28) (.tmp 28) rfl .i64 .i64 m m rfl rfl lq XF SF w.heap.size lq ?_; intro w1 o2 g2 s2; clear s2)
  have b1:Below w.heap.size w.drew w1:=(Below.refl _ w.drew).grown g2 lq fun k hk=>by cases hk
  have b1':Below w.heap.size w w1:=hbd.trans b1;rw [qR] at o2;refine ax b1' ?_;refine aH 1 3 rfl (by kernel_rfl) (by decide) ?_;simp only [nth];go_wp2_with (at_builtin; refine bU od rfl (.const (.slice none 0 0)) (.tmp 26) rfl rfl rfl B ((HB.out).below (b1'.mono hB)) hn1 (Nat.le_trans hB b1'.size) ?_; intro A1 c1 w2 o1 b2)
  refine ax b2 ?_;refine ai (by kernel_rfl) 2 (Below.refl _ _) [5] rfl (by kernel_rfl) ?_;simp only [aj,nth]
  repeat (go_big_quiet_step (fail))
  refine wpQuiet_nil ?_;refine aH 6 1 rfl (by kernel_rfl) (by decide) ?_;simp only [nth];have b3:=ae w2 (.cells #[.slice A1 n c1,.slice (some ⟨w.drew.heap.size,0,none⟩) m m,.int .i64 z,.bool false,.int .i64 (-1),.int .u32 0,.int .i64 0] 93);have K3:=ao.new w2 93 #[.slice A1 n c1,.slice (some ⟨w.drew.heap.size,0,none⟩) m m,.int .i64 z,.bool false,.int .i64 (-1),.int .u32 0,.int .i64 0];have b13:=aa b1' b2 lq;have F3:=Ec (base:=w.heap.size) b13.size K3 ((o1.more b1'.size).below b3) ((o2.below b2).below b3);go_wp2_with fail
  refine ax b3 ?_;refine ai (by kernel_rfl) 0 (Below.refl _ _) [7] rfl (by kernel_rfl) ?_;simp only [aj,nth]
  repeat (go_big_quiet_step (fail))
  refine wpQuiet_nil ?_;refine aK (by kernel_rfl) ?_;go_wp2_with fail
  go_ret
  exact ⟨_,_,_,_,rfl,aa b13 b3 lq,F3⟩
theorem zX {n k:Nat} {l:List UInt8} (hl:l.length=n) (hk:k < n) (h:l.take k=List.replicate k 255):(l.set k 255).take (k + 1)=List.replicate (k + 1) 255:=by
 rw [List.take_succ_eq_append_getElem (by simp; omega),List.replicate_succ',List.take_set_of_le lq,h];simp
theorem m7.more {w:World} {base base' g n c m c':Nat} {A A':Option Addr} {f:vO} (h:m7 w base g A n c A' m c' f) (hb:base'<=base):m7 w base' g A n c A' m c' f:=⟨Nat.le_trans hb h.gb,h.aP,h.row.more hb,h.yu.more hb⟩
theorem oM (w:World) (m:Nat) (z:Int) (hm1:1<=m) (T_:m<=8) (hz:1<=z) :
  Calls Tryz.prog 5 #[.int .i64 (m:Int),.int .i64 z] w fun e w'=>∃ g A1 c1 A2,e=.returned (.pointer (some ⟨g,0,none⟩))/\Below w.heap.size w w'/\m7 w' w.heap.size g A1 (m * 1024) c1 A2 m m ⟨List.replicate (m * 1024) 255,List.replicate m 0,z,false,-1,0,0⟩:=by
 have e5:decide ((m:Int) < 1)=false:=decide_eq_false (by omega);have e6:decide ((m:Int) > 8)=false:=decide_eq_false (by omega);have e1:decide (m < 1)=false:=decide_eq_false (by omega);have e2:decide (8 < m)=false:=decide_eq_false (by omega);obtain ⟨n,hn⟩:∃ n,n=m * 1024:=⟨_,rfl⟩;rw [<- hn];have q3:IntKind.i64.wrap ((m:Int) * 1024)=(n:Int):=by rw [IntWalk.i64_in _ (by omega)]; omega
 have q5:wrap64 ((m:Int) * 1024)=(n:Int):=by rw [IntWalk.wrap64_in _ (by omega)]; omega
 have hn1:n<=10000:=by omega
 have OF:=zq (fun (w1:World) (A:Option Addr) (c:Nat) (b:List UInt8) (h:OB w1 w.heap.size A n c b)=>CD w1 m z h.rb lq hm1 T_ hn hz);clear hm1 T_ hn hz;go_enter Tryz.func5,Tryz.ntmps5
 go_wp2_with (at_make; refine fO od rfl (.tmp 14) (.tmp 14) rfl .i64 .i64 n n rfl rfl lq (by omega) w.heap.size lq ?_; intro w1 o1 b1 s1)
 clear s1;go_loopw [18] (fun i wr=>∃ (k:Nat) (l:List UInt8),k<=n/\i=.int .i64 (k:Int)/\OB wr w.heap.size (some ⟨w.heap.size,0,none⟩) n n l/\Hid (l.length=n/\l.take k=List.replicate k 255)/\Below w.heap.size w wr) (fun i _=>n - (intOf i).toNat)
 case atStart=>exact ⟨0,_,Nat.zero_le _,rfl,o1,zq ⟨by simp,by simp⟩,b1⟩
 case round =>
  obtain ⟨k,l,hk,rfl,ho,HE,hb⟩:=hrel
  by_cases hlt:k < n
  ·have o3:=OB.EM ho k (v:=255) 255 rfl
   have hce:=ho.cell hlt;have hfr:=ho.free k;have HE2:Hid ((l.set k 255).length=n/\(l.set k 255).take (k + 1)=List.replicate (k + 1) 255):=zq ⟨by rw [List.length_set]; exact HE.out.1,zX HE.out.1 hlt HE.out.2⟩;have b3:=hb.grown o3.2 hb.size fun q hq=>by injection hq with hq; omega
   have h3:=o3.1;clear HE o3 hb;go_wp2_with fail
   go_roundw
   case rel=>exact ⟨k + 1,_,by omega,by go_num,h3,HE2,b3⟩
   case measure=>simp [intOf] <;> omega
  ·obtain rfl:k=n:=by omega
   have HL:Hid (l=List.replicate k 255):=zq (by rw [<- HE.out.2,List.take_of_length_le (Nat.le_of_eq HE.out.1)]);clear HE;go_wp2_with fail
   rw [HL.out] at ho;refine (OF.out _ _ _ _ ho).mono ?_;rintro e w3 ⟨g,A1,c1,A2,rfl,b3,F3⟩;go_wp2_with fail
   go_ret
   exact ⟨g,A1,c1,A2,rfl,aa hb b3 lq,F3.more hb.size⟩
def cE (L:List Jr.eW) (now:Nat) (has:Bool):Nat:=if has=true then (L.getD now ⟨Jr.ia,0,0,false⟩).last.num else 0
def kL:Jr.eW:=⟨Jr.ia,0,0,false⟩
def FF (g:Nat) (A:Option Addr) (n c:Nat) (A':Option Addr) (m c':Nat) (q:Nat):Prop:=q=g\/some q=(Value.slice A n c).ownBlock\/some q=(Value.slice A' m c').ownBlock
section
variable {P:Program} {Q:Exit->Act->World->Prop} {md:Region.Mode} {t:Nat} {C:World->Prop}
structure Cl (C:World->Prop) where
 val:World
 ok:C val
theorem B7 {id:Nat} {l:List Oper} {a:Act} {w:World} (t:Nat) (C:World->Prop) (hm:P.follows .mixedOrders=true)
  (h:wpAnyL P .any l.toArray (NoPanic Q) t (fun x=>∃ v:Cl C,x=v.val) l.length (Array.replicate l.length false) a w.drew):(Code.region id l.toArray true).wp P Q a w :=
 wp_region_noPanic (wp_region_any hm (by simpa using dN _ _ _ _ h))
theorem vG {l:List Oper} (hsel:Region.noSelect l.toArray=true) (fuel:Nat) {w:World} (hC:C w) (σ:List Nat) {n:Nat} {listed:Array Bool} {a:Act} (hn:n=σ.length + fuel) (hok:fe md l t listed σ=true)
  (h:wpQuiet P l.toArray (fun x=>∃ v:Cl C,x=v.val) (fun a'=>wpAnyL P md l.toArray (NoPanic Q) t (fun x=>∃ v:Cl C,x=v.val) fuel (after listed σ) a' w) (aj l σ) a) :
  wpAnyL P md l.toArray (NoPanic Q) t (fun x=>∃ v:Cl C,x=v.val) n listed a w:=fJ hsel (fun _ _ _ _ _ h=>h) fuel w ⟨⟨w,hC⟩,rfl⟩ σ listed a hn hok h
theorem jv {l:List Oper} {fuel:Nat} {listed:Array Bool} {a:Act} {w:World} (hC:C w)
  (h:wpAnyL P md l.toArray Q t (fun x=>∃ v:Cl C,x=v.val) fuel listed a w):Qn (fun a' w'=>gB P md l Q t (fun x=>∃ v:Cl C,x=v.val) fuel listed a' w') Q .normal a w :=
 ⟨_,⟨⟨w,hC⟩,rfl⟩,fun _ hx=>hx,h⟩
end
theorem OV.UB {w w':World} {G:Nat->Prop} {base e size n c:Nat} {A:Option Addr} {xs:List Value} (h:OV w base e size A n c xs) (hm:Mv G w w') (hd:∀ k,(Value.slice A n c).ownBlock=some k->¬ G k):OV w' base e size A n c xs:=by
 refine ⟨h.1,?_⟩;rcases h.2 with h2 | ⟨k,cap,cur,hv,hg,hh,r⟩
 ·exact .inl h2
 ·have hlt:k < w.heap.size:=(Array.getElem?_eq_some_iff.1 hh).1
  exact .inr ⟨k,cap,cur,hv,hg,(hm.block k hlt (hd k (by rw [hv]; rfl))).trans hh,r⟩
theorem m7.mv {w w':World} {G:Nat->Prop} {base g n c m c':Nat} {A A':Option Addr} {f:vO} (h:m7 w base g A n c A' m c' f) (hm:Mv G w w') (hd:∀ q,FF g A n c A' m c' q->¬ G q):m7 w' base g A n c A' m c' f :=
 ⟨h.gb,h.aP.mv hm (hd g (.inl rfl)),OV.UB h.row hm fun k hk=>hd k (.inr (.inl hk.symm)),OV.UB h.yu hm fun k hk=>hd k (.inr (.inr hk.symm))⟩
theorem m7.lt {w:World} {base g n c m c':Nat} {A A':Option Addr} {f:vO} (h:m7 w base g A n c A' m c' f) {q:Nat} (hq:FF g A n c A' m c' q):q < w.heap.size:=by
 rcases hq with rfl | hq | hq
 ·exact h.aP.lt
 ·exact (h.row.lt q hq.symm).2
 ·exact (h.yu.lt q hq.symm).2
theorem GZ {w:World} {F:Nat->Prop} {gj gl c now gf:Nat} {A:Option Addr} {xs:List Value} {L:List Jr.eW} {dead:Bool} (h:vQ w F gj gl A c xs L now false gf dead) :
  Calls Tryz.prog 134 #[.pointer (some ⟨gj,0,none⟩)] w fun e w'=>e=.returned (.tuple #[.agg mq,.bool false])/\Below w.heap.size w w':=by
 have b1:=ae w (.cells #[.int .i64 0,.int .u32 0,.slice none 0 0] 217);have K1:=ao.new w 217 #[.int .i64 0,.int .u32 0,.slice none 0 0];have J1:=h.below b1;have F1:=J1.jJ;have C1:=K1.three;have s0:=C1.1;have s1:=C1.2.1;have s2:=C1.2.2.1;have BZ:=zq b1;clear h J1;go_enter Tryz.func134,Tryz.ntmps134
 go_wp2_with fail
 exact bodyPost_ret (v:=.tuple #[.agg mq,.bool false]) (by simp [results,Tryz.results134,go_sem,s0,s1,s2,mq]) rfl ⟨rfl,BZ.out⟩
structure UF where
 L:List Jr.eW
 now:Nat
 has:Bool
 dead:Bool
 s:List Dc.Vl
 odd:Bool
 off:Bool
def Xd (gj:Nat) (As:Option Addr) (n cs:Nat) (odd off:Bool):Array Value:=#[.pointer (some ⟨gj,0,none⟩),.slice As n cs,.bool odd,.bool off]
structure AQ (w:World) (F:Nat->Prop) (gv gj gl:Nat) (A:Option Addr) (c:Nat) (xs:List Value) (gf:Nat) (As:Option Addr) (cs:Nat) (x:UF):Prop where
 fg:F gv
 ne:gv≠gl
 aP:ao w gv 215 (Xd gj As x.s.length cs x.odd x.off)
 jo:vQ w (fun q=>F q/\q≠gv) gj gl A c xs x.L x.now x.has gf x.dead
 vals:jU w (fun q=>F q/\q≠gv/\q≠gj/\q≠gl) As x.s.length cs x.s
section
variable {w w':World} {F G:Nat->Prop} {gv gj gl c gf cs:Nat} {A As:Option Addr} {xs:List Value} {x:UF}
theorem AQ.mv (h:AQ w F gv gj gl A c xs gf As cs x) (hm:Mv G w w') (hd:∀ b,b < w.heap.size->F b->¬ G b):AQ w' F gv gj gl A c xs gf As cs x :=
 ⟨h.fg,h.ne,h.aP.mv hm (hd gv h.aP.lt h.fg),h.jo.mv hm fun b hb hf=>hd b hb hf.1,h.vals.mv hm fun b hb hf=>hd b hb hf.1⟩
theorem AQ.mono (h:AQ w F gv gj gl A c xs gf As cs x) (hi:∀ b,b < w.heap.size->F b->G b):AQ w G gv gj gl A c xs gf As cs x :=
 ⟨hi gv h.aP.lt h.fg,h.ne,h.aP,h.jo.mono fun b hb hf=>⟨hi b hb hf.1,hf.2⟩,h.vals.mono fun b hb hf=>⟨hi b hb hf.1,hf.2⟩⟩
theorem AQ.four (h:AQ w F gv gj gl A c xs gf As cs x):(w.cell? ⟨gv,0,none⟩=some (.pointer (some ⟨gj,0,none⟩))/\w.cell? ⟨gv,1,none⟩=some (.slice As x.s.length cs)/\w.cell? ⟨gv,2,none⟩=some (.bool x.odd)/\w.cell? ⟨gv,3,none⟩=some (.bool x.off)) /\
  (w.frozen? ⟨gv,0,none⟩=false/\w.frozen? ⟨gv,1,none⟩=false/\w.frozen? ⟨gv,2,none⟩=false/\w.frozen? ⟨gv,3,none⟩=false) :=
 ⟨⟨h.aP.cell 0,h.aP.cell 1,h.aP.cell 2,h.aP.cell 3⟩,h.aP.frozen 0,h.aP.frozen 1,h.aP.frozen 2,h.aP.frozen 3⟩
end
end
end Go.Proofs.YtijegngfclkdaaaGreatDoor
