/-
  Pieces of the proof: part 26 of 54.
  Conditions: none.
-/
import Derived.StillTailTactics
import Derived.IntWalk
import Derived.Test.YtijegngfclkdaaaGreatDoorW18
import Derived.Test.YtijegngfclkdaaaGreatDoorW25
set_option linter.unusedVariables false
set_option linter.unusedSimpArgs false
set_option maxHeartbeats 100000000
set_option maxRecDepth 100000
namespace Go.Proofs.YtijegngfclkdaaaGreatDoor
open Go.RowKit
def VlP (w:World) (F:Nat→Prop) (f:Dc.Vl) (cs:List Value):Prop:=∃ A n c,cs=[.int .i64 f.index,.int .i64 f.sub,.slice A n c]∧RBp w F A n c f.data
def RVq (w:World) (F:Nat→Prop) (A:Option Addr) (n c:Nat) (fs:List Dc.Vl):Prop:=∃ xs,RVp w F 3 A n c xs∧Rows (VlP w F) 3 fs xs
section
variable {F G:Nat→Prop} {w w':World} {A:Option Addr} {n c base:Nat} {fs:List Dc.Vl} {f:Dc.Vl} {cs:List Value}
theorem VlP.mv (h:VlP w F f cs) (hm:Mv G w w') (hd:∀ b,b < w.heap.size→F b→¬ G b):VlP w' F f cs:=by obtain ⟨A,n,c,h1,h2⟩:=h; exact ⟨A,n,c,h1,h2.mv hm hd⟩
theorem VlP.mono (h:VlP w F f cs) (hi:∀ b,b < w.heap.size→F b→G b):VlP w G f cs:=by obtain ⟨A,n,c,h1,h2⟩:=h; exact ⟨A,n,c,h1,h2.mono hi⟩
theorem VlP.vlc (h:VlP w F f cs):VlC w w.heap.size f cs:=by obtain ⟨A,n,c,h1,h2⟩:=h; exact ⟨A,n,c,h1,h2.rb⟩
theorem RVq.mv (h:RVq w F A n c fs) (hm:Mv G w w') (hd:∀ b,b < w.heap.size→F b→¬ G b):RVq w' F A n c fs:=by
 obtain ⟨xs,h1,h2⟩:=h;exact ⟨xs,h1.mv hm hd,h2.imp fun _ _ k=>k.mv hm hd⟩
theorem RVq.below (h:RVq w F A n c fs) (hb:Below w.heap.size w w'):RVq w' F A n c fs:=h.mv (Mv.of_new hb fun _=>False) fun _ _ _ h=>h
theorem RVq.mono (h:RVq w F A n c fs) (hi:∀ b,b < w.heap.size→F b→G b):RVq w G A n c fs:=by
 obtain ⟨xs,h1,h2⟩:=h;exact ⟨xs,h1.mono hi,h2.imp fun _ _ k=>k.mono hi⟩
theorem RVq.rvl (h:RVq w F A n c fs):RVl w w.heap.size w.heap.size A n c fs:=by
 obtain ⟨xs,h1,h2⟩:=h;exact ⟨xs,h1.rv,h2.imp fun _ _ k=>k.vlc⟩
theorem RVq.nil (w:World) (F:Nat→Prop):RVq w F none 0 0 []:=⟨[],RVp.none_ _ _ _,Rows.nil⟩
theorem OW.rbp {l:List UInt8} (h:OW w base A n c l):RBp w (fun q=>base≤q) A n c l:=by
 have hr:=h.rb;refine ⟨hr.len,hr.le,hr.cap,hr.nil,fun hn=>?_⟩;obtain ⟨b,o,e1,hb,hc⟩:=hr.at_ hn;obtain ⟨g,cur,e2,hg,_⟩:=h.at_ (by have:=hr.le; omega);rw [e1] at e2;injection e2 with e2
 injection e2 with e3 _
 subst e3;exact ⟨b,o,e1,hg,hb,hc⟩
theorem VlW.vlp (h:VlW w base f cs):VlP w (fun q=>base≤q) f cs:=by obtain ⟨A,n,c,h1,h2⟩:=h; exact ⟨A,n,c,h1,h2.rbp⟩
theorem os_rvq (h:OS (VlW w base) w base 34 3 A n c fs):RVq w (fun q=>base≤q) A n c fs:=by
 obtain ⟨xs,h1,h2⟩:=h;exact ⟨xs,h1.rvp fun k hk=>(h1.lt k hk).1,h2.imp fun _ _ k=>k.vlp⟩
end
theorem apply_drop {D:Dc.Dic} {fs:List Dc.Vl} {k:Nat} (hk:k < fs.length):Sn.applyS D (fs.drop k)=Sn.applyS (Dc.pokeS D (fs.getD k vl0).index (fs.getD k vl0).sub (fs.getD k vl0).data) (fs.drop (k + 1)):=by
 rw [List.drop_eq_getElem_cons hk,Sn.applyS,List.getD_eq_getElem?_getD,List.getElem?_eq_getElem hk];rfl
def AplP {t:TypeId} (D:Dc.Dic) (fs:List Dc.Vl) (w:World) (F:Nat→Prop) (g gv:Nat) (lA:Option Addr) (lc:Nat) (vA:Option Addr) (vc:Nat) (xs:List Value) (e:Ending) (w':World):Prop :=
 e=.returned (.int .i64 (Sn.checkS D fs))∧Mv (fun q=>q=gv) w w'∧∃ vs',DRt t w' (fun q=>F q∨(w.heap.size≤q∧q < w'.heap.size)) g gv lA lc vA vc xs vs' (if Sn.checkS D fs=0 then Sn.applyS D fs else D)
theorem poke_l (D:Dc.Dic) (x y:Int) (b:List UInt8):(Dc.pokeS D x y b).l=D.l:=by
 unfold Dc.pokeS;split
 ·rfl
 ·split <;> rfl
theorem sapply_any {F G:Nat→Prop} {w:World} {g gv lc vc:Nat} {la:Addr} {vA:Option Addr} {xs vs:List Value} {D:Dc.Dic} (h:DRt 131 w F g gv (some la) lc vA vc xs vs D) (hd:∀ e∈D.l,e.dflt.length≤1000000) (h0:0 < D.l.length) {A:Option Addr} {n c:Nat} {fs:List Dc.Vl} (hf:RVq w G A n c fs) (hG:¬ G gv) (hfs:∀ f∈fs,f.data.length≤1000000):Calls Tryz.prog 139 #[.pointer (some ⟨g,0,none⟩),.slice A n c] w (AplP (t:=131) D fs w F g gv (some la) lc vA vc xs):=by
 have hrv:=hf.rvl;have hn:=hrv.lt;have hfl:=hrv.len;have CH:=Lib.hid (scheck_any h hd h0 hrv (Nat.le_refl _) (Nat.le_refl _));have HH:=Lib.hid h;have HFF:=Lib.hid hf;have HFS:=Lib.hid (fun k (hk:k < fs.length)=>show (fs.getD k vl0).data.length≤1000000 from hfs _ (by rw [List.getD_eq_getElem?_getD,List.getElem?_eq_getElem hk]; exact List.getElem_mem hk));have HST:=Lib.hid (fun (D:Dc.Dic) k (hk:k < fs.length)=>apply_drop (D:=D) hk);have HP:∀ e w',e=.returned (.int .i64 (Sn.checkS D fs))→Mv (fun q=>q=gv) w w'→(∃ vs',DRt 131 w' (fun q=>F q∨(w.heap.size≤q∧q < w'.heap.size)) g gv (some la) lc vA vc xs vs' (if Sn.checkS D fs=0 then Sn.applyS D fs else D))→AplP (t:=131) D fs w F g gv (some la) lc vA vc xs e w':=fun e w' h1 h2 h3=>⟨h1,h2,h3⟩
 have HPH:=Lib.hid HP;clear h hf hrv hd hfs HP;generalize hck:Sn.checkS D fs=ck at *
 by_cases hz:ck=0
 ·subst hz
  have HS0:Hid (Sn.applyS D fs=Sn.applyS D (fs.drop 0)):=Lib.hid rfl;clear hck;go_enter Tryz.func139,Tryz.ntmps139
  go_wp2_with fail
  refine (CH.out).mono ?_;rintro e w1 ⟨rfl,b1⟩;have R0:Hid (Mv (fun q=>q=gv) w w1∧∃ vs',DRt 131 w1 (fun q=>F q∨(w.heap.size≤q∧q < w1.heap.size)) g gv (some la) lc vA vc xs vs' D):=Lib.hid ⟨Mv.of_new b1 _,vs,(HH.out.below b1).mono (G:=fun q=>F q∨(w.heap.size≤q∧q < w1.heap.size)) fun _ _ hf=>.inl hf⟩;clear CH HH;go_wp2_with fail
  go_loopw [16] (fun v wr=>∃ (k:Nat) (D1:Dc.Dic),k≤n∧v=.int .i64 k∧Hid (Sn.applyS D fs=Sn.applyS D1 (fs.drop k))∧Hid (Mv (fun q=>q=gv) w wr∧∃ vs',DRt 131 wr (fun q=>F q∨(w.heap.size≤q∧q < wr.heap.size)) g gv (some la) lc vA vc xs vs' D1)) (fun v _=>n - (intOf v).toNat)
  case atStart=>exact ⟨0,D,by omega,rfl,HS0,R0⟩
  case round =>
   obtain ⟨k,D1,hk,rfl,HR,HM⟩:=hrel;clear R0 HS0
   by_cases hlt:k < n
   ·obtain ⟨hm,vs',h1⟩:=HM.out
    have hq:=HFF.out.mv hm fun b _ hb e=>hG (by rw [← e]; exact hb)
    obtain ⟨b,o,A1,n1,c1,rfl,hbB,q0,q1,q2,hr⟩:=hq.rvl.at_ hlt;have hst:=HST.out D1 k (by omega);have hdl:=HFS.out k (by omega);have HST2:=Lib.hid (HR.out.trans hst);have i0:(0:Int)≤(k:Int):=by omega
    have i1:(k:Int) < (n:Int):=by omega
    have hrl:=hr.len;clear hst hq HM HR;generalize fs.getD k vl0=v at *;obtain ⟨ix,sb,dat⟩:=v;dsimp only at q0 q1 hr hdl hrl HST2;have b2:=alloc_one wr (.cells #[.int .i64 ix,.int .i64 sb,.slice A1 n1 c1] 34);have K2:=Blk.new wr 34 #[.int .i64 ix,.int .i64 sb,.slice A1 n1 c1];have C2:=K2.three;have PK:=Lib.hid (dPoke_any ix sb (h1.below b2) (hr.below b2) b2.size (by omega));have HMV:=Lib.hid hm;have hbs:=hm.size;clear hr h1 hm;go_wp2_with fail
    refine (PK.out).mono ?_;rintro e w3 ⟨rfl,m3,vs3,d3⟩;clear PK;have m4:Mv (fun q=>q=gv) w w3:=(HMV.out.trans (Mv.of_new b2 (fun q=>q=gv)) fun _ _ e=>e).trans m3 fun _ _ e=>e
    have hs2:=b2.size;have hs3:=m3.size;have d4:=d3.mono (G:=fun q=>F q∨(w.heap.size≤q∧q < w3.heap.size)) fun b hb hf=>by
     rcases hf with (hf | hf) | hf
     ·exact .inl hf
     ·exact .inr (by omega)
     ·exact .inr (by omega)
    have HN:Hid (Mv (fun q=>q=gv) w w3∧∃ vs',DRt 131 w3 (fun q=>F q∨(w.heap.size≤q∧q < w3.heap.size)) g gv (some la) lc vA vc xs vs' (Dc.pokeS D1 ix sb dat)):=Lib.hid ⟨m4,vs3,d4⟩;clear m4 d4 d3 m3 b2 C2 K2;go_wp2_with fail
    go_roundw
    case rel=>exact ⟨k + 1,Dc.pokeS D1 ix sb dat,by omega,by go_num,HST2,HN⟩
    case measure=>simp [intOf] <;> omega
   ·obtain rfl:k=n:=by omega
    have H:Hid (Sn.applyS D fs=D1):=Lib.hid (HR.out.trans (by rw [List.drop_of_length_le (by omega)]; rfl));go_wp2_with fail
    go_ret
    refine HPH.out _ _ rfl HM.out.1 ?_;rw [if_pos trivial,H.out];exact HM.out.2
 ·have e5:(ck == 0)=false:=by simpa using hz
  have e6:(ck != 0)=true:=by simpa using hz
  have HZ:=Lib.hid hz;clear hck hz;go_enter Tryz.func139,Tryz.ntmps139
  go_wp2_with fail
  refine (CH.out).mono ?_;rintro e w1 ⟨rfl,b1⟩;have R0:Hid (Mv (fun q=>q=gv) w w1∧∃ vs',DRt 131 w1 (fun q=>F q∨(w.heap.size≤q∧q < w1.heap.size)) g gv (some la) lc vA vc xs vs' D):=Lib.hid ⟨Mv.of_new b1 _,vs,(HH.out.below b1).mono (G:=fun q=>F q∨(w.heap.size≤q∧q < w1.heap.size)) fun _ _ hf=>.inl hf⟩;go_wp2_with fail
  go_ret
  refine HPH.out _ _ rfl R0.out.1 ?_;rw [if_neg HZ.out];exact R0.out.2
end Go.Proofs.YtijegngfclkdaaaGreatDoor
namespace Go.Proofs.YtijegngfclkdaaaGreatDoor
open Go.RowKit
theorem Rows.put {α:Type} {R:α→List Value→Prop} {size:Nat} {fs:List α} {xs xs':List Value} (h:Rows R size fs xs) {k:Nat} {f:α} (hl:xs'.length=xs.length) (ho:∀ j,j < k * size∨(k + 1) * size≤j→xs'[j]?=xs[j]?) (hf:R f ((xs'.drop (k * size)).take size)):Rows R size (fs.set k f) xs':=by
 refine ⟨by rw [hl,List.length_set]; exact h.len,fun i f' hi=>?_⟩;rw [List.getElem?_set] at hi;split at hi
 ·rename_i e
  subst e;split at hi
  ·injection hi with hi; subst hi; exact hf
  ·cases hi
 ·rename_i e
  have h1:=h.2 i f' hi;have:(xs'.drop (i * size)).take size=(xs.drop (i * size)).take size:=by
   apply List.ext_getElem?
   intro j;rw [List.getElem?_take,List.getElem?_take];split
   ·rename_i hj
    rw [List.getElem?_drop,List.getElem?_drop];apply ho
    rcases Nat.lt_or_ge i k with h5 | h5
    ·left
     have:=Nat.mul_le_mul_right size (show i + 1≤k from h5);rw [Nat.add_mul,Nat.one_mul] at this;omega
    ·right
     have:=Nat.mul_le_mul_right size (show k + 1≤i by omega);omega
   ·rfl
  rw [this];exact h1
theorem set3_row (xs:List Value) (k:Nat) (a b c:Value) (hk:k * 3 + 3≤xs.length):((((xs.set (k * 3) a).set (k * 3 + 1) b).set (k * 3 + 2) c).drop (k * 3)).take 3=[a,b,c]:=by
 apply List.ext_getElem?
 intro j;rw [List.getElem?_take]
 by_cases h3:j < 3
 ·rw [if_pos h3,List.getElem?_drop,List.getElem?_set,List.getElem?_set,List.getElem?_set]
  have:j=0∨j=1∨j=2:=by omega
  rcases this with rfl | rfl | rfl
  ·rw [if_neg (by omega),if_neg (by omega),if_pos (by omega),if_pos (by omega)]; rfl
  ·rw [if_neg (by omega),if_pos (by omega),if_pos (by simp; omega)]; rfl
  ·rw [if_pos (by omega),if_pos (by simp; omega)]; rfl
 ·rw [if_neg h3,List.getElem?_eq_none (by simp; omega)]
theorem set3_other (xs:List Value) (k:Nat) (a b c:Value) (j:Nat) (hj:j < k * 3∨(k + 1) * 3≤j):(((xs.set (k * 3) a).set (k * 3 + 1) b).set (k * 3 + 2) c)[j]?=xs[j]?:=by
 rw [List.getElem?_set_ne (by omega),List.getElem?_set_ne (by omega),List.getElem?_set_ne (by omega)]
theorem run_copy_nil {P:Program} {T E size bytes:Nat} {z:Value} (ht:ET P T E size bytes z) (w:World) (ty:TypeId) (dp sp:Option Addr) (dCap sLen sCap:Nat):(Builtin.copy_ #[T,T] ty #[.slice dp 0 dCap,.slice sp sLen sCap]).run P w=.ok (goInt 0) w:=by
 obtain ⟨i,hi,_⟩:=ht.info;have hu:(underlying T).run P w=.ok (.slice E) w:=by simp [underlying,ht.sl]
 have hs:(sizeOf E).run P w=.ok i.size w:=by simp [sizeOf,typeInfo,hi]
 have hl:∀ (x:Addr),(loadCells x 0).run P w=.ok #[] w:=fun x=>by simpa using run_loadCells_list (P:=P) w x [] (by simp)
 cases dp <;> cases sp <;> simp [Builtin.copy_,hu,hs,Builtin.firstCells,Builtin.lenOf,storeCells,hl]
theorem wpList_copy_nil {P:Program} {T E size bytes:Nat} {z:Value} (ht:ET P T E size bytes z) {w:World} {ops:Array Oper} {rest:List Oper} {o:Oper} {a:Act} {Q:Exit→Act→World→Prop} (hgd:o.guard=none) (d s:Operand)
  (ho:o.op=.call { callee:=.builtin .copy,args:=#[d,s],argTypes:=#[T,T] })
  (dp sp:Option Addr) (dCap sLen sCap:Nat) (hd:a.eval d=.slice dp 0 dCap) (hs:a.eval s=.slice sp sLen sCap)
  (h:wpList P ops Q rest (a.put o.dst (goInt 0)) w):wpList P ops Q (o :: rest) a w:=by
 refine wpList_plain hgd fun K hK=>?_
 have hrun:=run_copy_nil ht w o.type dp sp dCap sLen sCap;unfold Oper.wp;simp [execOp,ho,resolve,invoke,builtin,hd,hs,hrun,Result.andThen];exact hK _ _ h
def befV (a b:Dc.Vl):Bool:=Ent.befB (plE a.index a.sub) (plE b.index b.sub)
theorem sinsert_end {A A':Option Addr} {n c n' c' B base:Nat} {fs:List Dc.Vl} {v:Dc.Vl} (w:World) (h:OS (VlW w base) w base 34 3 A n c fs) (hbase:base≤w.heap.size) (hv:RB w B A' n' c' v.data) (hB:B≤base) (hn':n'≤1000000) (hall:∀ f∈fs,befV f v=true) (hn:n≤1000) :
  Calls Tryz.prog 346 #[.slice A n c,vlV v.index v.sub A' n' c'] w fun e w'=>∃ A1 c1,e=.returned (.slice A1 (n + 1) c1)∧OS (VlW w' base) w' base 34 3 A1 (n + 1) c1 (fs ++ [v])∧Below base w w':=by
 have hfl:=h.len (by decide);obtain ⟨ix,sb,dat⟩:=v;dsimp only at hv;have b1:=alloc_one w (.cells #[.int .i64 ix,.int .i64 sb,.slice A' n' c'] 34);have K1:=Blk.new w 34 #[.int .i64 ix,.int .i64 sb,.slice A' n' c'];have OW0:=Lib.hid h;have HOL:Hid (∀ q,(Value.slice A n c).ownBlock=some q→q < w.heap.size):=Lib.hid fun q hq=>by
  obtain ⟨zs,z1,_⟩:=h;exact (z1.lt q hq).2
 have HV:=Lib.hid (fun (w1:World) (b:Below base w w1)=>hv.below (b.mono hB));have HB:=Lib.hid hB;have HALL:=Lib.hid (fun k (hk:k < fs.length)=>show befV (fs.getD k vl0) ⟨ix,sb,dat⟩=true from hall _ (by rw [List.getD_eq_getElem?_getD,List.getElem?_eq_getElem hk]; exact List.getElem_mem hk));have HBS:=Lib.hid hbase;clear h hv hall hB hbase;unfold vlV;go_enter Tryz.func346,Tryz.ntmps346
 go_wp2_with fail
 go_loopw [5] (fun v wr=>∃ k:Nat,k≤n∧v=.int .i64 k∧Hid (Below w.heap.size w wr∧Blk wr w.heap.size 34 #[.int .i64 ix,.int .i64 sb,.slice A' n' c'])) (fun v _=>n - (intOf v).toNat)
 case atStart=>exact ⟨0,by omega,rfl,Lib.hid ⟨b1,K1⟩⟩
 case round =>
  obtain ⟨k,hk,rfl,HR⟩:=hrel;clear K1 b1
  by_cases hlt:k < n
  ·obtain ⟨bb,K⟩:=HR.out
   have os:=OW0.out.below bb (R':=VlW wr base) fun _ _ h=>h.below bb
   have hf:fs[k]?=some (fs.getD k vl0):=by simp [List.getD,List.getElem?_eq_getElem (show k < fs.length by omega)]
   obtain ⟨b,o,cs,rfl,hbB,⟨A2,n2,c2,rfl,_⟩,hc⟩:=os.rs.at_ (by decide) hf;have hbf:=HALL.out k (by omega);generalize fs.getD k vl0=f at *;obtain ⟨ix2,sb2,dat2⟩:=f;have q0:=cell_mv (G:=fun _=>False) (hc 0 _ (by decide) rfl) (fun h=>h);have q1:=cell_mv (G:=fun _=>False) (hc 1 _ (by decide) rfl) (fun h=>h);have q2:=cell_mv (G:=fun _=>False) (hc 2 _ (by decide) rfl) (fun h=>h);simp only [Nat.add_zero] at q0;dsimp only at q0 q1;have v0:=cell_mv (G:=fun _=>False) (K.cell 0) (fun h=>h);have v1:=cell_mv (G:=fun _=>False) (K.cell 1) (fun h=>h);have v2:=cell_mv (G:=fun _=>False) (K.cell 2) (fun h=>h);have AH:=Lib.hid (fun w1=>sahead_any ix2 sb2 ix sb A2 A' n2 c2 n' c' w1);have hbf2:Ent.befB (plE ix2 sb2) (plE ix sb)=true:=hbf;rw [hbf2] at AH;unfold vlV at AH;have e1:decide ((k:Int) < (n:Int))=true:=decide_eq_true (by omega);have e1':decide (k < n)=true:=decide_eq_true (by omega);have i0:(0:Int)≤(k:Int):=by omega
   have i1:(k:Int) < (n:Int):=by omega
   have HK:=Lib.hid K;clear os hc hf hbf hbf2 HR K;go_wp2_with fail
   refine region_mv 99 (fun _=>False) (by kernel_rfl) ?_;refine phase_mv (by kernel_rfl) 2 (Mv.refl _ _).drew [0,1,2,3,4,5,6,7,8,9] rfl (by kernel_rfl) ?_;simp only [picks,nth]
   repeat (go_big_quiet_step (fail))
   refine wpQuiet_nil ?_;refine phase_opL 10 1 rfl (by kernel_rfl) (by decide) ?_;simp only [nth];go_wp2_with fail
   refine (AH.out _).mono ?_;rintro e w4 ⟨rfl,b4⟩;have bd:Below wr.heap.size wr w4:=(below_drew wr).trans b4;go_wp2_with fail
   refine behind_mv (Mv.of_new bd _) ?_;refine phase_mv (by kernel_rfl) 0 (Mv.of_new bd _) [11] rfl (by kernel_rfl) ?_;simp only [picks,nth]
   repeat (go_big_quiet_step (fail))
   refine wpQuiet_nil ?_;refine phase_endL (by kernel_rfl) ?_;have HN:=Lib.hid (And.intro (below_step bb bd (Nat.le_refl _)) (HK.out.later bd));clear v0 v1 v2 q0 q1 q2 AH HK bb b4 bd;go_wp2_with fail
   go_roundw
   case rel=>exact ⟨k + 1,by omega,by go_num,HN⟩
   case measure=>simp [intOf] <;> omega
  ·obtain rfl:k=n:=by omega
   obtain ⟨bb,K⟩:=HR.out;have e1:decide ((k:Int) < (k:Int))=false:=decide_eq_false (by omega);have e1':decide (k < k)=false:=decide_eq_false (by omega);have HK:=Lib.hid K;have os:=OW0.out.below bb (R':=VlW wr base) fun _ _ h=>h.below bb
   have BB:=Lib.hid bb;clear HR K bb HALL OW0;go_wp2_with fail
   refine region_mv 99 (fun _=>False) (by kernel_rfl) ?_;refine phase_mv (by kernel_rfl) 2 (Mv.refl _ _).drew [0,1,2,3,4,5,6,7,8,9] rfl (by kernel_rfl) ?_;simp only [picks,nth]
   repeat (go_big_quiet_step (fail))
   refine wpQuiet_nil ?_;refine phase_opL 10 1 rfl (by kernel_rfl) (by decide) ?_;simp only [nth];go_wp2_with fail
   refine behind_mv (Mv.refl _ _).drew ?_;refine phase_mv (by kernel_rfl) 0 (Mv.refl _ _).drew [11] rfl (by kernel_rfl) ?_;simp only [picks,nth]
   repeat (go_big_quiet_step (fail))
   refine wpQuiet_nil ?_;refine phase_endL (by kernel_rfl) ?_;go_wp2_with fail
   refine region_mv 99 (fun _=>False) (by kernel_rfl) ?_;refine phase_mv (by kernel_rfl) 3 (Mv.refl _ _).drew [0,1,2,3,4,5,6,7,8,9] rfl (by kernel_rfl) ?_;simp only [picks,nth]
   repeat (go_big_quiet_step (fail))
   refine wpQuiet_nil ?_;refine phase_opL 10 2 rfl (by kernel_rfl) (by decide) ?_;simp only [nth];go_wp2_with fail
   refine behind_mv (Mv.refl _ _).drew ?_;refine phase_mv (by kernel_rfl) 0 (Mv.refl _ _).drew [11,12] rfl (by kernel_rfl) ?_;simp only [picks,nth]
   repeat (go_big_quiet_step (fail))
   refine wpQuiet_nil ?_;refine phase_endL (by kernel_rfl) ?_;have b5:=alloc_one wr.drew.drew (.cells #[.int .i64 0,.int .i64 0,.slice none 0 0] 34);have d5:Below wr.heap.size wr _:=((below_drew wr).drew).trans b5;have os5:=os.below d5 (R':=VlW _ base) fun _ _ h=>h.below d5
   have hnew:=RV.new wr.drew.drew 34 (size:=3) (cs:=[.int .i64 0,.int .i64 0,.slice none 0 0]) rfl;have hf5:VlW (wr.drew.drew.alloc (.cells #[.int .i64 0,.int .i64 0,.slice none 0 0] 34)) base vl0 [.int .i64 0,.int .i64 0,.slice none 0 0]:=⟨none,0,0,rfl,OW.none_ _ _⟩;have hsz:=Nat.le_trans HBS.out (Nat.le_trans BB.out.size d5.size);go_wp2_with (at_builtin; refine wpList_apps2 etvl (fun w1=>VlW w1 base) rfl (.tmp 39) (.tmp 41) rfl rfl rfl base os5 vl0 hnew hf5 (value_oneCell _ _ _ _ _) (by omega) (by omega) hsz (fun w1 A1 n1 c1 xs hv hg f cs hf=>hf.beside hv (by decide) hg) ?_; intro A7 c7 w7 o7 b7 g7 j7)
   have hcap:k + 1≤c7∧c7≤9223372036854775807:=by obtain ⟨zs,z1,_⟩:=o7; exact ⟨z1.rv.le,z1.rv.cap⟩
   obtain ⟨zs,z1,z2⟩:=o7;obtain ⟨g,rfl,hg1,hg2⟩:=z1.head (Nat.succ_pos k);have hc1:=fun w1=>run_cut_rest etvl (some ⟨g,0,none⟩) (k + 1) c7 (k + 1) (Nat.le_refl _) .i64 w1
   have hc2:=fun w1=>run_cut_rest etvl (some ⟨g,0,none⟩) (k + 1) c7 k (Nat.le_succ _) .i64 w1
   rw [Nat.sub_self,show ((k + 1:Nat):Int)=(k:Int) + 1 from rfl] at hc1;rw [Nat.add_sub_cancel_left] at hc2;have d7:=below_step BB.out d5 (Nat.le_refl _);have K5:=HK.out.later d5;have hrow:(Value.slice A k c).ownBlock≠some w.heap.size:=fun e=>absurd (HOL.out _ e) (Nat.lt_irrefl _)
   have K7:=K5.grown g7 fun e=>hrow e.symm
   have hsr:w.heap.size < wr.heap.size:=HK.out.lt;have hgv:g≠w.heap.size:=fun e=>by
    rcases j7 with j7 | j7
    ·rw [← j7] at hrow
     exact hrow (by rw [e]; rfl)
    ·have e2:g=(wr.drew.drew.alloc (.cells #[.int .i64 0,.int .i64 0,.slice none 0 0] 34)).heap.size:=by simpa [Value.ownBlock] using j7
     rw [World.size_alloc] at e2;have e3:wr.drew.drew.heap.size=wr.heap.size:=rfl;omega
   have d8:=(d7.mono HBS.out).trans b7;have hk7:w.heap.size < w7.heap.size:=K7.lt;have HE:=Lib.hid (fun (w8:World) (b:Below w7.heap.size w7 w8)=>sheld_any ix sb w8 (HV.out w8 (d8.trans (b.mono (Nat.le_trans HBS.out d8.size)))) (Nat.le_trans HB.out (Nat.le_trans (Nat.le_trans HBS.out d8.size) b.size)) hn');have Z2:=Lib.hid z2;have Z1:=Lib.hid z1;unfold vlV at HE;clear z1 z2 K5 d5 d7 b5 os os5 hnew hf5 b7 j7 hrow;generalize (if c7=k + 1 then some ⟨g,0,none⟩ else (some ⟨g,0,none⟩:Option Addr).map (·.add ((k + 1) * 3)))=P1 at *;generalize (if c7=k then some ⟨g,0,none⟩ else (some ⟨g,0,none⟩:Option Addr).map (·.add (k * 3)))=P2 at *;go_wp2_with fail
   refine region_mv 99 (fun _=>False) (by kernel_rfl) ?_;refine phase_mv (by kernel_rfl) 1 (Mv.refl _ _).drew [0,1,2,3,4,5,6] rfl (by kernel_rfl) ?_;simp only [picks,nth]
   repeat (go_big_quiet_step (fail))
   refine wpQuiet_nil ?_;refine phase_opL 7 0 rfl (by kernel_rfl) (by decide) ?_;simp only [nth];refine wpList_copy_nil etvl rfl (.tmp 46) (.tmp 49) rfl P1 P2 (c7 - (k + 1)) 1 (c7 - k) rfl rfl ?_;refine behind_mv (Mv.refl _ _).drew ?_;refine phase_endL (by kernel_rfl) ?_;have HEL:=Lib.hid (HE.out w7.drew (below_drew w7));have K8:=K7.later (below_drew w7);have C8:=K8.three;go_wp2_with fail
   refine (HEL.out).mono ?_;rintro e w9 ⟨A9,rfl,o9,b9⟩;have z9:=Z1.out.below ((below_drew w7).trans b9);have zz9:=Z2.out.imp (R':=VlW w9 base) fun _ _ h=>(h.below ((below_drew w7).trans b9))
   have d9:=d8.trans (((below_drew w7).trans b9).mono (Nat.le_trans HBS.out d8.size));have s1:=z9.set (k * 3) (.int .i64 ix);have s2:=s1.1.set (k * 3 + 1) (.int .i64 sb);have s3:=s2.1.set (k * 3 + 2) (.slice A9 n' n');have HF:=Lib.hid (And.intro (And.intro z9 zz9) (And.intro d9 (And.intro o9 (And.intro (And.intro s1.2 s2.2) s3))));have i0:(0:Int)≤(k:Int):=by omega
   have i1:(k:Int) < (k:Int) + 1:=by omega
   have hf9:(fs ++ [vl0])[k]?=some vl0:=by rw [List.getElem?_append_right (by omega)]; simp [hfl]
   have ⟨bo,oo,cs,hAo,_,⟨Az,nz,cz,hcs,_⟩,hcell⟩:=RS.at_ (show RS (VlW w9 base) w9 w9.heap.size 3 (some ⟨g,0,none⟩) (k + 1) c7 (fs ++ [vl0]) from ⟨zs,z9.rv,zz9⟩) (by decide) hf9;injection hAo with hAo
   injection hAo with hAo1 hAo2
   subst hAo1 hAo2 hcs;have q0:=hcell 0 _ (by decide) rfl;have q1:=hcell 1 _ (by decide) rfl;have q2:=hcell 2 _ (by decide) rfl;simp only [Nat.zero_add,Nat.add_zero] at q0 q1 q2;have f0:=z9.free (k * 3);have f1:=z9.free (k * 3 + 1);have f2:=z9.free (k * 3 + 2);clear hcell hf9;clear Z1 Z2 z9 zz9 d9 o9 b9 s1 s2 s3 HE HEL C8 K8;go_wp2_with fail
   go_ret
   obtain ⟨⟨z9,zz9⟩,d9,o9,⟨gr1,gr2⟩,s3,gr3⟩:=HF.out;have gr:=World.grownBy.trans (World.grownBy.trans gr1 gr2) gr3;have hfin:(fs ++ [vl0]).set k ⟨ix,sb,dat⟩=fs ++ [⟨ix,sb,dat⟩]:=by rw [List.set_append_right _ _ (by omega),hfl,Nat.sub_self]; rfl
   have hzl:=z9.rv.len;have ovl:VlW w9 base ⟨ix,sb,dat⟩ [.int .i64 ix,.int .i64 sb,.slice A9 n' n']:=ob_vlw ⟨ix,sb,dat⟩ o9 (Nat.le_trans HBS.out d8.size);refine ⟨_,c7,rfl,⟨_,s3,?_⟩,((d9.setCell (p:=⟨g,k * 3,none⟩) hg1 _).setCell (p:=⟨g,k * 3 + 1,none⟩) hg1 _).setCell (p:=⟨g,k * 3 + 2,none⟩) hg1 _⟩;rw [← hfin];refine Rows.put (zz9.imp fun _ _ h=>h.beside z9 (by decide) gr) (by simp) (fun j hj=>set3_other zs k _ _ _ j hj) ?_;rw [set3_row zs k _ _ _ (by omega)];exact ovl.beside z9 (by decide) gr
def OrdV (l:List Dc.Vl):Prop:=∀ i j,i < j→j < l.length→befV (l.getD i vl0) (l.getD j vl0)=true
theorem ordv_take {l:List Dc.Vl} (h:OrdV l) {k:Nat} (hk:k < l.length):∀ f∈l.take k,befV f (l.getD k vl0)=true:=fun f hf=>by
 obtain ⟨i,hi,rfl⟩:=List.getElem_of_mem hf;have hi2:i < k:=by rw [List.length_take] at hi; omega
 have:=h i k hi2 hk;rw [List.getElem_take]
 rwa [List.getD_eq_getElem?_getD,List.getElem?_eq_getElem (by omega)] at this
end Go.Proofs.YtijegngfclkdaaaGreatDoor
namespace Go.Proofs.YtijegngfclkdaaaGreatDoor
open Go.RowKit
def FF (g:Nat) (A:Option Addr) (n c:Nat) (A':Option Addr) (m c':Nat) (q:Nat):Prop:=q=g∨some q=(Value.slice A n c).ownBlock∨some q=(Value.slice A' m c').ownBlock
def fillF (b:List UInt8) (p:Nat):Nat→List UInt8
 | 0=>b
 | k + 1=>(fillF b p k).set (p + k) 255
section
variable {w w':World} {base g n c m c' gb:Nat} {A A':Option Addr} {f:Fla}
theorem FlM.byte (h:FlM w base g (some ⟨gb,0,none⟩) n c A' m c' f) (j:Nat) (x:UInt8) {v:Int} (hv:v=(x.toNat:Int)):FlM (w.setCell ⟨gb,j,none⟩ (.int .u8 v)) base g (some ⟨gb,0,none⟩) n c A' m c' { f with b:=f.b.set j x }:=by
 subst hv;refine ⟨h.gb,?_,(OB.set h.row j x).1,?_⟩
 ·refine h.blk.far (p:=⟨gb,j,none⟩) ?_ _
  intro e;have e':g=gb:=e;exact own_blk_ne (show OV w base 5 1 (some ⟨gb,0,none⟩) n c _ from h.row) h.blk (by decide) (by rw [e']; rfl)
 ·exact h.worn.kept (row:=some gb) (grown_setCell (p:=⟨gb,j,none⟩) (World.grownBy.refl _ _) (.inl rfl) _) (own_own_ne (show OV w base 5 1 (some ⟨gb,0,none⟩) n c _ from h.row) h.worn (by decide))
theorem fill_less (P:Nat) {k j:Nat} (h:j < k):P + k - ((P:Int) + (j:Int) + 1).toNat < P + k - ((P:Int) + (j:Int)).toNat:=by omega
theorem ffill_any (h:FlM w base g A n c A' m c' f) (s k:Nat) (hs:s * 1024 + k≤n) (hn:n≤100000):Calls Tryz.prog 412 #[.pointer (some ⟨g,0,none⟩),.int .i64 (s:Int),.int .i64 (k:Int)] w fun e w'=>e=.returned (.tuple #[])∧Mv (FF g A n c A' m c') w w'∧FlM w' base g A n c A' m c' { f with b:=fillF f.b (s * 1024) k }:=by
 obtain ⟨P,hP⟩:∃ P,P=s * 1024:=⟨_,rfl⟩;rw [← hP] at hs ⊢;have HH:=Lib.hid h;have q1:IntKind.i64.wrap ((s:Int) * 1024)=(P:Int):=by rw [show (s:Int) * 1024=(P:Int) by omega]; exact IntWalk.i64_in _ (by omega)
 have q2:wrap64 ((s:Int) * 1024)=(P:Int):=by rw [show (s:Int) * 1024=(P:Int) by omega]; exact IntWalk.wrap64_in _ (by omega)
 have q3:IntKind.i64.wrap ((P:Int) + (k:Int))=(P:Int) + (k:Int):=IntWalk.i64_in _ (by omega);have q4:wrap64 ((P:Int) + (k:Int))=(P:Int) + (k:Int):=IntWalk.wrap64_in _ (by omega);clear h hP;go_enter Tryz.func412,Tryz.ntmps412
 go_wp2_with fail
 go_loopw [7] (fun i wr=>∃ j:Nat,j≤k∧i=.int .i64 ((P:Int) + (j:Int))∧Mv (FF g A n c A' m c') w wr∧FlM wr base g A n c A' m c' { f with b:=fillF f.b P j }) (fun i _=>(P + k) - (intOf i).toNat)
 case atStart=>exact ⟨0,Nat.zero_le _,by simp,Mv.refl _ _,HH.out⟩
 case round =>
  obtain ⟨j,hj,rfl,hm,hF⟩:=hrel;have F:=hF.seven;dsimp only at F
  by_cases hlt:j < k
  ·obtain ⟨gb,rfl,hgb1,hgb2⟩:=hF.row.head (by omega)
   have hfr:=hF.row.free (P + j);have hce:=hF.row.cell (i:=P + j) (by omega);have HB:=Lib.hid (hF.byte (P + j) 255 (v:=255) rfl);dsimp only at hce;have i1:(P:Int) + (j:Int) < (n:Int):=by omega
   have i2:(0:Int)≤(P:Int) + (j:Int):=by omega
   have i3:(P:Int) + (j:Int) < (P:Int) + (k:Int):=by omega
   have i6:((P:Int) + (j:Int)).toNat=P + j:=by omega
   have q5:IntKind.i64.wrap ((P:Int) + (j:Int) + 1)=(P:Int) + (j:Int) + 1:=IntWalk.i64_in _ (by omega);have q6:wrap64 ((P:Int) + (j:Int) + 1)=(P:Int) + (j:Int) + 1:=IntWalk.wrap64_in _ (by omega);have hmm:Mv (FF g (some ⟨gb,0,none⟩) n c A' m c') w (wr.setCell ⟨gb,P + j,none⟩ (.int .u8 255)):=hm.trans (Mv.setCell _ ⟨gb,P + j,none⟩ _) fun q _ e=>.inr (.inl (by rw [show q=gb from e]; rfl))
   have hj1:(P:Int) + (j:Int) + 1=(P:Int) + ((j + 1:Nat):Int):=by omega
   have hms:=fill_less P hlt;have HJ:=Lib.hid hj1;have HM:=Lib.hid hms;clear hF hj1 hms;go_wp2_with fail
   clear q1 q2 q3 q4 q5 q6 F hce hfr;go_roundw
   case rel=>exact ⟨j + 1,hlt,congrArg (Value.int .i64) HJ.out,hmm,HB.out⟩
   case measure=>exact HM.out
  ·obtain rfl:j=k:=by omega
   have i3:¬ (P:Int) + (j:Int) < (P:Int) + (j:Int):=by omega
   go_wp2_with fail
   go_end0
   exact ⟨rfl,hm,hF⟩
theorem ferase_any (h:FlM w base g A n c A' m c' f) (s:Nat) (hs:s * 1024 + 1024≤n) (hn:n≤100000):Calls Tryz.prog 406 #[.pointer (some ⟨g,0,none⟩),.int .i64 (s:Int)] w fun e w'=>e=.returned (.tuple #[])∧Mv (FF g A n c A' m c') w w'∧FlM w' base g A n c A' m c' { f with b:=fillF f.b (s * 1024) 1024 }:=by
 have C:=Lib.hid (ffill_any h s 1024 hs hn);clear h hs hn;go_enter Tryz.func406,Tryz.ntmps406
 go_wp2_with fail
 refine (C.out).mono ?_;rintro e w1 ⟨rfl,m1,h1⟩;go_wp2_with fail
 go_end0
 exact ⟨rfl,m1,h1⟩
theorem begin_rem (z:Int) (h0:0≤z):Int.tmod z 1025=((z.toNat % 1025:Nat):Int):=by
 rw [Int.tmod_eq_emod_of_nonneg h0];omega
theorem begin_lt (z:Nat):z % 1025≤1024:=by omega
theorem fbegin_any (h:FlM w base g A n c A' m c' f) (s:Nat) (hs:s * 1024 + 1024≤n) (hn:n≤100000) (h0:0≤f.mask):Calls Tryz.prog 407 #[.pointer (some ⟨g,0,none⟩),.int .i64 (s:Int)] w fun e w'=>e=.returned (.tuple #[])∧Mv (FF g A n c A' m c') w w'∧FlM w' base g A n c A' m c' { f with b:=fillF f.b (s * 1024) (f.mask.toNat % 1025) }:=by
 have hr:=begin_rem f.mask h0;have hl:=begin_lt f.mask.toNat;have C:=ffill_any h s (f.mask.toNat % 1025) (by omega) hn;have F:=h.seven;generalize f.mask.toNat % 1025=z at *;replace C:=Lib.hid C;have q1:IntKind.i64.wrap (z:Int)=(z:Int):=IntWalk.i64_in _ (by omega);clear h hs hn h0 hl;go_enter Tryz.func407,Tryz.ntmps407
 go_wp2_with fail
 refine (C.out).mono ?_;rintro e w1 ⟨rfl,m1,h1⟩;go_wp2_with fail
 go_end0
 exact ⟨rfl,m1,h1⟩
end
end Go.Proofs.YtijegngfclkdaaaGreatDoor
namespace Go.Proofs.YtijegngfclkdaaaGreatDoor
open Go.RowKit
section
variable {w w':World} {base g n c m c':Nat} {A A':Option Addr} {f:Fla}
theorem byte_i (P:Nat) {n:Nat} (h:P < n):(0:Int)≤(P:Int)∧(P:Int) < (n:Int):=by omega
theorem fall_any (h:FlM w base g A n c A' m c' f) (x:UInt8) (p:Nat) (hp:p < n):Calls Tryz.prog 408 #[.agg #[.pointer (some ⟨g,0,none⟩),.int .u8 (x.toNat:Int)],.int .i64 (p:Int)] w fun e w'=>e=.returned (.tuple #[])∧Mv (FF g A n c A' m c') w w'∧FlM w' base g A n c A' m c' { f with b:=f.b.set p (f.b.getD p 0 &&& x) }:=by
 have b0:=alloc_one w (.cells #[.pointer (some ⟨g,0,none⟩),.int .u8 (x.toNat:Int)] 499);have K0:=(Blk.new w 499 #[.pointer (some ⟨g,0,none⟩),.int .u8 (x.toNat:Int)]);have k0:(w.alloc (.cells #[.pointer (some ⟨g,0,none⟩),.int .u8 (x.toNat:Int)] 499)).cell? ⟨w.heap.size,0,none⟩=some (.pointer (some ⟨g,0,none⟩)):=K0.cell 0;have k1:(w.alloc (.cells #[.pointer (some ⟨g,0,none⟩),.int .u8 (x.toNat:Int)] 499)).cell? ⟨w.heap.size,1,none⟩=some (.int .u8 (x.toNat:Int)):=K0.cell 1;have H0:=h.below b0;obtain ⟨gb,rfl,hgb1,hgb2⟩:=H0.row.head (by omega);have F:=H0.seven;have hfr:=H0.row.free p;have hce:=H0.row.cell hp;have ha:=u8_and_bytes (f.b.getD p 0) x;obtain ⟨i0,i1⟩:=byte_i p hp;generalize f.b.getD p 0=y at *;have HB:=Lib.hid ((H0.byte p (y &&& x) (v:=bits .and .u8 (y.toNat:Int) (x.toNat:Int)) ha).below (below_drew _));have hmm:=Lib.hid (((Mv.of_new b0 (FF g (some ⟨gb,0,none⟩) n c A' m c')).trans (Mv.setCell _ ⟨gb,p,none⟩ (.int .u8 (bits .and .u8 (y.toNat:Int) (x.toNat:Int)))) fun q _ e=>.inr (.inl (by rw [show q=gb from e]; rfl))).drew);clear h b0 K0 H0 ha hp;go_enter Tryz.func408,Tryz.ntmps408
 go_wp2_with fail
 generalize w.alloc (.cells #[.pointer (some ⟨g,0,none⟩),.int .u8 (x.toNat:Int)] 499)=w1 at *;go_still_tail 12,(by kernel_rfl)
 change wpList _ _ _ _ _ w1.drew;go_wp2_with fail
 go_end0
 exact ⟨rfl,hmm.out,HB.out⟩
end
end Go.Proofs.YtijegngfclkdaaaGreatDoor
