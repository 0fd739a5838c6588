/-
  Pieces of the proof: part 31 of 54.
  Conditions: none.
-/
import Derived.Test.YtijegngfclkdaaaGreatDoorW13
import Derived.Test.YtijegngfclkdaaaGreatDoorW25
import Derived.Test.YtijegngfclkdaaaGreatDoorW26
import Derived.Test.YtijegngfclkdaaaGreatDoorW30
set_option linter.unusedVariables false
set_option linter.unusedSimpArgs false
set_option maxHeartbeats 100000000
set_option maxRecDepth 100000
namespace Go.Proofs.YtijegngfclkdaaaGreatDoor.Sn
open Dc
def ofK (D:Dic) (k:Nat):List Vl:=(List.range k).filterMap fun k=>if (D.l.getD k en0).store then some ⟨(D.l.getD k en0).index,(D.l.getD k en0).sub,D.v.getD k []⟩ else none
theorem ofK_step (D:Dic) (k:Nat):ofK D (k + 1)=ofK D k ++ (if (D.l.getD k en0).store then [⟨(D.l.getD k en0).index,(D.l.getD k en0).sub,D.v.getD k []⟩] else []):=by
 unfold ofK;rw [List.range_succ,List.filterMap_append]
 congr 1
 simp only [List.filterMap_cons,List.filterMap_nil];generalize D.l.getD k en0=e;cases e.store <;> rfl
def ofS (D:Dic):List Vl:=ofK D D.l.length
theorem values_getD (D:Dic) {k:Nat} (hk:k < D.l.length):(valuesS D).getD k ⟨0,0,[]⟩=⟨(D.l.getD k en0).index,(D.l.getD k en0).sub,D.v.getD k []⟩:=by
 show (valuesK D D.l.length).getD k ⟨0,0,[]⟩=_;unfold valuesK;rw [List.getD_eq_getElem?_getD,List.getElem?_map,List.getElem?_range hk];rfl
end Go.Proofs.YtijegngfclkdaaaGreatDoor.Sn
namespace Go.Proofs.YtijegngfclkdaaaGreatDoor
open Go.RowKit
def OfvP (vs:List Dc.Vl) (w:World) (e:Ending) (w':World):Prop:=∃ A c,e=.returned (.slice A vs.length c)∧OS (VlW w' w.heap.size) w' w.heap.size 34 3 A vs.length c vs∧Below w.heap.size w w'
theorem sof_one {F:Nat→Prop} {w:World} {g gv lc vc:Nat} {la:Addr} {vA:Option Addr} {xs vs:List Value} {D:Dc.Dic} (h:DRt 131 w F g gv (some la) lc vA vc xs vs D) (hd:∀ e∈D.l,e.dflt.length≤1000000) (hv:∀ v∈D.v,v.length≤1000000):Calls Tryz.prog 308 #[.pointer (some ⟨g,0,none⟩),.int .i64 1] w (OfvP (Sn.ofS D) w):=by
 have h96:=h.few;have VA:=Lib.hid (dVals_any h hv);have HH:=Lib.hid (fun (w1:World) (b:Below w.heap.size w w1)=>h.below b);have HD:=Lib.hid hd;have HS:=Lib.hid (show Sn.ofS D=Sn.ofK D D.l.length from rfl);have HVL:=Lib.hid (fun k (hk:k < D.l.length)=>Sn.values_getD D hk);have HST:=Lib.hid (fun k=>Sn.ofK_step D k);clear h hd hv;go_enter Tryz.func308,Tryz.ntmps308
 go_wp2_with fail
 refine (VA.out).mono ?_;rintro e w1 ⟨A,c,rfl,os1,b1⟩;have hcap:D.l.length≤c∧c≤9223372036854775807:=by obtain ⟨zs,z1,_⟩:=os1; exact ⟨z1.rv.le,z1.rv.cap⟩
 have OSV:=Lib.hid os1;clear VA os1;go_wp2_with fail
 go_loopw [5,13] (fun u v wr=>∃ (k:Nat) (A1:Option Addr) (m1 c1:Nat) (out:List Dc.Vl),k≤D.l.length∧v=.int .i64 k∧u=.slice A1 m1 c1∧Hid (out=Sn.ofK D k)∧m1≤k∧OS (VlW wr w.heap.size) wr w1.heap.size 34 3 A1 m1 c1 out∧Below w1.heap.size w1 wr) (fun _ v _=>D.l.length - (intOf v).toNat)
 case atStart=>exact ⟨0,_,0,_,[],by omega,rfl,rfl,Lib.hid (by simp [Sn.ofK]),by omega,OS.none_ _ _ _ _,Below.refl _ _⟩
 case round =>
  obtain ⟨k,A1,m1,c1,out,hk,rfl,rfl,HOUT,hm1,os,bb⟩:=hrel
  by_cases hlt:k < D.l.length
  ·have osv:=OSV.out.below bb (R':=VlW wr w.heap.size) fun _ _ h=>h.below bb
   have hvl:=HVL.out k hlt;have hf:(Dc.valuesS D)[k]?=some ((Dc.valuesS D).getD k ⟨0,0,[]⟩):=by
    have:=osv.len (by decide);simp [List.getD,List.getElem?_eq_getElem (show k < (Dc.valuesS D).length by omega)]
   rw [hvl] at hf;obtain ⟨b,o,cs,rfl,hbB,⟨A2,n2,c2,rfl,ow2⟩,hc⟩:=osv.rs.at_ (by decide) hf;have q0:=hc 0 _ (by decide) rfl;have q1:=hc 1 _ (by decide) rfl;have q2:=hc 2 _ (by decide) rfl;simp only [Nat.add_zero] at q0;have hst:=HST.out k;have EN:=Lib.hid (fun (w2:World) (b2:Below w.heap.size w w2)=>dEntry_any k (HH.out w2 b2) hlt HD.out);have i0:(0:Int)≤(k:Int):=by omega
   have i1:(k:Int) < (D.l.length:Int):=by omega
   clear hc hf hvl osv;generalize D.v.getD k []=dat at *;generalize D.l.getD k Dc.en0=en at *;have IN:=Lib.hid (fun A n c w2=>sin_one en A n c w2);have HST2:=Lib.hid (HOUT.out ▸ hst);clear hst HOUT;obtain ⟨ix,sb,nm,ty,ac,mp,st,mx,lo,hi,df⟩:=en;dsimp only at q0 q1 ow2 HST2;unfold enV at EN IN;dsimp only at EN IN;have b2:=alloc_one wr (.cells #[.int .i64 ix,.int .i64 sb,.slice A2 n2 c2] 34);have K2:=Blk.new wr 34 #[.int .i64 ix,.int .i64 sb,.slice A2 n2 c2];have os2:=os.below b2 (R':=VlW _ w.heap.size) fun _ _ h=>h.below b2
   have ow2':=ow2.below b2;have d2:=below_step bb b2 (Nat.le_refl _);have EN2:=Lib.hid (EN.out _ (b1.trans (d2.mono b1.size)));clear EN ow2 os b2 bb;go_wp2_with fail
   refine (EN2.out).mono ?_;rintro e w3 ⟨A3,n3,c3,rfl,_,b3⟩;clear EN2;have d3:=below_step d2 b3 (Nat.le_refl _);have os3:=os2.below b3 (R':=VlW w3 w.heap.size) fun _ _ h=>h.below b3
   have ow3:=ow2'.below b3;have K3:=K2.later b3;have b4:=alloc_one w3 (.cells #[.int .i64 ix,.int .i64 sb,.string (T nm),.int .i64 ty,.int .i64 ac,.bool mp,.bool st,.int .i64 mx,.int .i64 lo,.int .i64 hi,.slice A3 n3 c3] 27);have K4:=K3.later b4;have E4:=(Blk.new w3 27 #[.int .i64 ix,.int .i64 sb,.string (T nm),.int .i64 ty,.int .i64 ac,.bool mp,.bool st,.int .i64 mx,.int .i64 lo,.int .i64 hi,.slice A3 n3 c3]).eleven;have os4:=os3.below b4 (R':=VlW _ w.heap.size) fun _ _ h=>h.below b4
   have ow4:=ow3.below b4;have d4:=below_step d3 b4 (Nat.le_refl _);clear os2 os3 ow2' ow3 d2 d3 K2 K3 b3 b4;cases st with
   | false =>
    go_wp2_with fail
    go_roundw
    case rel=>exact ⟨k + 1,A1,m1,c1,out,by omega,by go_num,rfl,Lib.hid (by have:=HST2.out; simp at this; exact this.symm),by omega,os4,d4⟩
    case measure=>simp [intOf] <;> omega
   | true =>
    have C4:=K4.three;go_wp2_with fail
    refine (IN.out _ _ _ _).mono ?_;rintro e w5 ⟨rfl,b5⟩;have K5:=K4.later b5;have C5:=K5.three;have os5:=os4.below b5 (R':=VlW _ w.heap.size) fun _ _ h=>h.below b5
    have ow5:=ow4.below b5;have d5:=below_step d4 b5 (Nat.le_refl _);have b6:=alloc_one w5 (.cells #[.int .i64 ix,.int .i64 sb,.slice A2 n2 c2] 34);have os6:=os5.below b6 (R':=VlW _ w.heap.size) fun _ _ h=>h.below b6
    have hnew:=RV.new w5 34 (size:=3) (cs:=[.int .i64 ix,.int .i64 sb,.slice A2 n2 c2]) rfl;have hf6:VlW (w5.alloc (.cells #[.int .i64 ix,.int .i64 sb,.slice A2 n2 c2] 34)) w.heap.size ⟨ix,sb,dat⟩ [.int .i64 ix,.int .i64 sb,.slice A2 n2 c2]:=⟨A2,n2,c2,rfl,ow5.below b6⟩;have d6:=below_step d5 b6 (Nat.le_refl _);clear os4 os5 ow4 ow5 d4 d5 C4 K4 E4 b5 b6;go_wp2_with (at_builtin; refine wpList_apps2 etvl (fun w1=>VlW w1 w.heap.size) rfl (.tmp 34) (.tmp 36) rfl rfl rfl w1.heap.size os6 ⟨ix,sb,dat⟩ hnew hf6 (value_oneCell _ _ _ _ _) (by omega) (by omega) d6.size (fun w1 A1 n1 c1 xs hv hg f cs hf=>hf.beside hv (by decide) hg) ?_; intro A7 c7 w7 o7 b7 g7 _)
    have d7:=d6.trans b7;clear os6 hnew hf6 g7;go_roundw
    case rel=>exact ⟨k + 1,A7,m1 + 1,c7,out ++ [⟨ix,sb,dat⟩],by omega,by go_num,rfl,Lib.hid (by have:=HST2.out; simp at this; exact this.symm),by omega,o7,d7⟩
    case measure=>simp [intOf] <;> omega
  ·obtain rfl:k=D.l.length:=by omega
   have hln:=os.len (by decide);have HO:=Lib.hid (HOUT.out.trans HS.out.symm);have os':=os.more b1.size (R':=VlW wr w.heap.size) fun _ _ h=>h
   subst hln;have d:=b1.trans (bb.mono b1.size);go_wp2_with fail
   go_ret
   rw [← HO.out];exact ⟨A1,c1,rfl,os',d⟩
end Go.Proofs.YtijegngfclkdaaaGreatDoor
namespace Go.Proofs.YtijegngfclkdaaaGreatDoor
open Go.RowKit
theorem take_step {l:List Dc.Vl} {k:Nat} (hk:k < l.length):l.take k ++ [l.getD k vl0]=l.take (k + 1):=by
 rw [List.take_add_one,List.getD_eq_getElem?_getD,List.getElem?_eq_getElem hk];rfl
theorem sjoin_none {A:Option Addr} {n c B B':Nat} {fs:List Dc.Vl} (w:World) (h:RVl w B B' A n c fs) (hB:B≤w.heap.size) (hB':B'≤B) (hn:n≤1000) (ho:OrdV fs) (hd:∀ f∈fs,f.data.length≤1000000) :
  Calls Tryz.prog 306 #[.slice none 0 0,.slice A n c] w (OfvP fs w):=by
 have hfl:=h.len;have b1:=alloc_one w (.cells #[.slice none 0 0,.slice A n c] 213);have K1:=Blk.new w 213 #[.slice none 0 0,.slice A n c];have HN:=Lib.hid (fun (w1:World) (b:Below w.heap.size w w1)=>h.below (b.mono hB) hB');have HO:=Lib.hid (fun k (hk:k < fs.length)=>ordv_take ho hk);have HD:=Lib.hid (fun k (hk:k < fs.length)=>show (fs.getD k vl0).data.length≤1000000 from hd _ (by rw [List.getD_eq_getElem?_getD,List.getElem?_eq_getElem hk]; exact List.getElem_mem hk));have HBB:=Lib.hid (And.intro hB hB');have HT:=Lib.hid (fun k (hk:k < fs.length)=>take_step hk);have BW:Hid (Below w.heap.size w (w.alloc (.cells #[.slice none 0 0,.slice A n c] 213))):=Lib.hid b1;have KW:Hid (Blk (w.alloc (.cells #[.slice none 0 0,.slice A n c] 213)) w.heap.size 213 #[.slice none 0 0,.slice A n c]):=Lib.hid K1;have HSZ:Hid ((w.alloc (.cells #[.slice none 0 0,.slice A n c] 213)).heap.size=w.heap.size + 1):=Lib.hid (World.size_alloc _ _);clear h ho hd K1 b1 hB hB';go_enter Tryz.func306,Tryz.ntmps306
 go_wp2_with fail
 generalize w.alloc (.cells #[.slice none 0 0,.slice A n c] 213)=w1 at *;go_loopw [5,14] (fun u v wr=>∃ (i:Nat) (A1:Option Addr) (m1 c1:Nat) (out:List Dc.Vl),i≤2∧v=.int .i64 i∧u=.slice A1 m1 c1∧Hid (out=if i=2 then fs else [])∧Hid (OS (VlW wr (w.heap.size + 1)) wr (w.heap.size + 1) 34 3 A1 m1 c1 out∧Below (w.heap.size + 1) w1 wr)) (fun _ v _=>2 - (intOf v).toNat)
 case atStart=>exact ⟨0,_,0,_,[],by omega,rfl,rfl,Lib.hid rfl,Lib.hid ⟨OS.none_ _ _ _ _,Below.refl _ _⟩⟩
 case round =>
  obtain ⟨i,A1,m1,c1,out,hi,rfl,rfl,HOUT,HR⟩:=hrel;obtain ⟨w11,hw⟩:∃ w,w=wr:=⟨wr,rfl⟩;subst hw
  by_cases hlt:i < 2
  ·have ho2:=HOUT.out
   rw [if_neg (by omega)] at ho2;subst ho2;obtain ⟨os,bb⟩:=HR.out;have hm1:m1=0:=by have:=os.len (by decide); simpa using this.symm
   subst hm1;have key:∃ A3 n3 c3 fs3,w1.cell? ⟨w.heap.size,i,none⟩=some (.slice A3 n3 c3)∧fs3=(if i + 1=2 then fs else [])∧(∀ w',Below w.heap.size w w'→RVl w' B B' A3 n3 c3 fs3)∧(∀ k,k < fs3.length→∀ f∈fs3.take k,befV f (fs3.getD k vl0)=true)∧(∀ k,k < fs3.length→(fs3.getD k vl0).data.length≤1000000)∧(∀ k,k < fs3.length→fs3.take k ++ [fs3.getD k vl0]=fs3.take (k + 1))∧n3≤1000:=by
    have:i=0∨i=1:=by omega
    rcases this with rfl | rfl
    ·exact ⟨none,0,0,[],KW.out.cell 0,rfl,fun _ _=>RS.none_,fun k hk=>by simp at hk,fun k hk=>by simp at hk,fun k hk=>by simp at hk,by omega⟩
    ·exact ⟨A,n,c,fs,KW.out.cell 1,rfl,HN.out,HO.out,HD.out,HT.out,hn⟩
   obtain ⟨A3,n3,c3,fs3,hc3,hfs3,hn3,ho3,hd3,ht3,h3⟩:=key;have c0:=(bb.cell (p:=⟨w.heap.size,i,none⟩) (Nat.lt_succ_self _)).trans hc3;have hfl3:=(hn3 w (Below.refl _ _)).len;have i0:(0:Int)≤(i:Int):=by omega
   have i1:(i:Int) < 2:=by omega
   have HFS:=Lib.hid hfs3;have HN3:=Lib.hid hn3;have HO3:=Lib.hid ho3;have HD3:=Lib.hid hd3;have HT3:=Lib.hid ht3;clear hfs3 hn3 ho3 hd3 ht3 hc3 HN HO HD HT hfl os bb;go_wp2_with fail
   go_loopw [5,20] (fun u v wr=>∃ (k:Nat) (A4:Option Addr) (c4:Nat),k≤n3∧v=.int .i64 k∧u=.slice A4 k c4∧Hid (OS (VlW wr (w.heap.size + 1)) wr (w.heap.size + 1) 34 3 A4 k c4 (fs3.take k)∧Below (w.heap.size + 1) w1 wr)) (fun _ v _=>n3 - (intOf v).toNat)
   case atStart=>exact ⟨0,_,_,by omega,rfl,rfl,HR⟩
   case round =>
    obtain ⟨k,A4,c4,hk,rfl,rfl,HR4⟩:=hrel;clear HR
    by_cases hlt3:k < n3
    ·obtain ⟨os,bb⟩:=HR4.out
     have bw:=BW.out.trans (bb.mono (Nat.le_succ _));have hrv:=HN3.out wr bw;obtain ⟨b,o,A5,n5,c5,rfl,hbB,q0,q1,q2,hr⟩:=hrv.at_ hlt3;have hall:=HO3.out k (by omega);have hdl:=HD3.out k (by omega);have htk:=HT3.out k (by omega);have hrl:=hr.len;have k0:(0:Int)≤(k:Int):=by omega
     have k1:(k:Int) < (n3:Int):=by omega
     generalize fs3.getD k vl0=f at *;obtain ⟨ix,sb,dat⟩:=f;dsimp only at q0 q1 hr hdl hrl;have b2:=alloc_one wr (.cells #[.int .i64 ix,.int .i64 sb,.slice A5 n5 c5] 34);have K2:=Blk.new wr 34 #[.int .i64 ix,.int .i64 sb,.slice A5 n5 c5];have C2:=K2.three;have hB2:B'≤w.heap.size + 1:=by have:=HBB.out; omega
     have hsz:w.heap.size + 1≤wr.heap.size:=by rw [← HSZ.out]; exact bb.size
     have hB3:B'≤wr.heap.size:=Nat.le_trans hB2 hsz;have os2:=os.below b2 (R':=VlW _ (w.heap.size + 1)) fun _ _ h=>h.below b2
     have INS:=Lib.hid (sinsert_end (v:=⟨ix,sb,dat⟩) _ os2 (Nat.le_trans hsz b2.size) (hr.below (b2.mono hB3)) hB2 (by omega) hall (by omega));rw [htk] at INS;have D2:=Lib.hid (bb.trans (b2.mono hsz));unfold vlV at INS;dsimp only at INS;clear os os2 bb bw hrv hr hall htk hdl b2 K2 HR4;go_wp2_with fail
     refine (INS.out).mono ?_;rintro e w3 ⟨A6,c6,rfl,o6,b6⟩;have HN6:=Lib.hid (And.intro o6 (D2.out.trans b6));clear INS o6 b6 D2 C2;go_wp2_with fail
     go_roundw
     case rel=>exact ⟨k + 1,A6,c6,by omega,by go_num,rfl,HN6⟩
     case measure=>simp [intOf] <;> omega
    ·obtain rfl:k=n3:=by omega
     have ht:fs3.take k=fs3:=List.take_of_length_le (by omega);have HF:Hid (OS (VlW wr (w.heap.size + 1)) wr (w.heap.size + 1) 34 3 A4 k c4 fs3∧Below (w.heap.size + 1) w1 wr):=Lib.hid (by have:=HR4.out; rw [ht] at this; exact this);clear ht HR4;go_wp2_with fail
     go_roundw
     case rel=>exact ⟨i + 1,A4,k,c4,fs3,by omega,by go_num,rfl,HFS,HF⟩
     case measure=>simp [intOf] <;> omega
  ·obtain rfl:i=2:=by omega
   obtain ⟨os,bb⟩:=HR.out;have ho2:=HOUT.out;rw [if_pos rfl] at ho2;subst ho2;have HLN:=Lib.hid (os.len (by decide));have os':=os.more (Nat.le_succ _) (R':=VlW w11 w.heap.size) fun _ _ h=>h.more (Nat.le_succ _)
   have d:=BW.out.trans (bb.mono (Nat.le_succ _));clear os;go_wp2_with fail
   go_ret
   have hln:=HLN.out;clear hfl HO HD HT HN;subst hln;exact ⟨A1,c1,rfl,os',d⟩
end Go.Proofs.YtijegngfclkdaaaGreatDoor
namespace Go.Proofs.YtijegngfclkdaaaGreatDoor.Sn
open Dc
def sizeV:List Vl→Nat
 | []=>0
 | v :: r=>5 + v.data.length + sizeV r
theorem sizeV_append (a b:List Vl):sizeV (a ++ b)=sizeV a + sizeV b:=by
 induction a with
 | nil=>simp [sizeV]
 | cons v r ih=>rw [List.cons_append,sizeV,sizeV,ih]; omega
theorem sizeV_le {l:List Vl} {k:Nat}:sizeV (l.take k)≤sizeV l:=by
 have:=sizeV_append (l.take k) (l.drop k);rw [List.take_append_drop] at this;omega
theorem sizeV_step {l:List Vl} {k:Nat} (hk:k < l.length):sizeV (l.take (k + 1))=sizeV (l.take k) + (5 + (l.getD k ⟨0,0,[]⟩).data.length):=by
 have:l.take (k + 1)=l.take k ++ [l.getD k ⟨0,0,[]⟩]:=by
  rw [List.take_add_one,List.getD_eq_getElem?_getD,List.getElem?_eq_getElem hk]; rfl
 rw [this,sizeV_append];rfl
end Go.Proofs.YtijegngfclkdaaaGreatDoor.Sn
namespace Go.Proofs.YtijegngfclkdaaaGreatDoor
open Go.RowKit
def BldP (N:Nat) (w:World) (e:Ending) (w':World):Prop:=∃ A c l,e=.returned (.tuple #[.slice A N c,.int .i64 0])∧OB w' w.heap.size A N c l∧Below w.heap.size w w'
theorem there_nat {ix sb:Int} (h:thereB ix sb=true):∃ a b:Nat,ix=(a:Int)∧sb=(b:Int)∧a < 256 ^ 2∧b < 256 ^ 1:=by
 unfold thereB at h;have:=of_decide_eq_true h;exact ⟨ix.toNat,sb.toNat,by omega,by omega,by have:(256:Nat) ^ 2=65536:=rfl; omega,by have:(256:Nat) ^ 1=256:=rfl; omega⟩
theorem bld_nums {a b n:Nat} (ha:a < 256 ^ 2) (hb:b < 256 ^ 1) (hn:n≤960):IntKind.u64.wrap (a:Int)=(a:Int)∧IntKind.u64.wrap (b:Int)=(b:Int)∧IntKind.u64.wrap (n:Int)=(n:Int):=by
 have h1:(256:Nat) ^ 2=65536:=rfl;have h2:(256:Nat) ^ 1=256:=rfl;exact ⟨IntWalk.u64_in _ (by omega),IntWalk.u64_in _ (by omega),IntWalk.u64_in _ (by omega)⟩
theorem sbuild_ok {A:Option Addr} {n c B B':Nat} {fs:List Dc.Vl} (w:World) (h:RVl w B B' A n c fs) (hB:B≤w.heap.size) (hB':B'≤B) (ho:OrdV fs) (ht:∀ f∈fs,thereB f.index f.sub=true) (hs:Sn.sizeV fs≤960) (hn:n≤1000) :
  Calls Tryz.prog 372 #[.slice A n c] w (BldP (Sn.sizeV fs) w):=by
 have hfl:=h.len;have HN:=Lib.hid (fun (w1:World) (b:Below w.heap.size w w1)=>h.below (b.mono hB) hB');have HO:=Lib.hid (fun k (i:Nat) (hi:i < k) (hk:k < fs.length)=>ho i k hi hk);have HD:=Lib.hid (fun k (hk:k < fs.length)=>show thereB (fs.getD k vl0).index (fs.getD k vl0).sub=true from ht _ (by rw [List.getD_eq_getElem?_getD,List.getElem?_eq_getElem hk]; exact List.getElem_mem hk));have HS:=Lib.hid (fun k (hk:k < fs.length)=>Sn.sizeV_step hk);have HL:=Lib.hid (fun k=>Nat.le_trans (Sn.sizeV_le (l:=fs) (k:=k)) hs);have HBB:=Lib.hid (And.intro hB hB');have HALL:Hid (fs.take n=fs):=Lib.hid (List.take_of_length_le (by omega));clear h ho ht hs;go_enter Tryz.func372,Tryz.ntmps372
 go_wp2_with fail
 go_loopw [11] (fun v wr=>∃ k:Nat,k≤n∧v=.int .i64 k∧Hid (Below w.heap.size w wr)) (fun v _=>n - (intOf v).toNat)
 case atStart=>exact ⟨0,by omega,rfl,Lib.hid (Below.refl _ _)⟩
 case round =>
  obtain ⟨k,hk,rfl,HR⟩:=hrel
  by_cases hlt:k < n
  ·have bb:=HR.out
   have hrv:=HN.out wr bb;have hprev:0 < k→∃ b o A5 n5 c5,A=some ⟨b,o,none⟩∧wr.cell? ⟨b,o + (k - 1) * 3,none⟩=some (.int .i64 (fs.getD (k - 1) vl0).index)∧wr.cell? ⟨b,o + (k - 1) * 3 + 1,none⟩=some (.int .i64 (fs.getD (k - 1) vl0).sub)∧wr.cell? ⟨b,o + (k - 1) * 3 + 2,none⟩=some (.slice A5 n5 c5)∧b < B∧befV (fs.getD (k - 1) vl0) (fs.getD k vl0)=true:=fun h0=>by
    obtain ⟨b,o,A5,n5,c5,e,hb,q0,q1,q2,_⟩:=hrv.at_ (show k - 1 < n by omega);exact ⟨b,o,A5,n5,c5,e,q0,q1,q2,hb,HO.out k (k - 1) (by omega) (by omega)⟩
   obtain ⟨b,o,A5,n5,c5,rfl,hbB,q0,q1,q2,hr⟩:=hrv.at_ hlt;have hth:=HD.out k (by omega);have i0:(0:Int)≤(k:Int):=by omega
   have i1:(k:Int) < (n:Int):=by omega
   generalize fs.getD k vl0=f at *;obtain ⟨ix,sb,dat⟩:=f;dsimp only at q0 q1 hth;have TH:=Lib.hid (fun A n c w1=>sthere_any ix sb A n c w1);rw [hth] at TH;unfold vlV at TH;have b2:=alloc_one wr (.cells #[.int .i64 ix,.int .i64 sb,.slice A5 n5 c5] 34);have K2:=Blk.new wr 34 #[.int .i64 ix,.int .i64 sb,.slice A5 n5 c5];have C2:=K2.three;have HPV:=Lib.hid hprev;clear hrv hr hth hprev;go_wp2_with fail
   refine (TH.out _ _ _ _).mono ?_;rintro e w3 ⟨rfl,b3⟩;have d3:Below wr.heap.size wr w3:=b2.trans (b3.mono b2.size);have K3:=K2.later b3;clear b2 b3 C2 K2 TH;go_wp2_with fail
   have v0:=cell_mv (G:=fun _=>False) (K3.cell 0) (fun h=>h);have v1:=cell_mv (G:=fun _=>False) (K3.cell 1) (fun h=>h);have v2:=cell_mv (G:=fun _=>False) (K3.cell 2) (fun h=>h)
   by_cases hk0:k=0
   ·subst hk0
    clear HPV q0 q1 q2;refine region_mv 99 (fun _=>False) (by kernel_rfl) ?_;refine phase_mv (by kernel_rfl) 3 (Mv.refl _ _).drew [0,1,2,3,4,5,6,7,8] rfl (by kernel_rfl) ?_;simp only [picks,nth]
    repeat (go_big_quiet_step (fail))
    refine wpQuiet_nil ?_;refine phase_opL 9 2 rfl (by kernel_rfl) (by decide) ?_;simp only [nth];go_wp2_with fail
    refine behind_mv (Mv.refl _ _).drew ?_;refine phase_mv (by kernel_rfl) 0 (Mv.refl _ _).drew [10,11] rfl (by kernel_rfl) ?_;simp only [picks,nth]
    repeat (go_big_quiet_step (fail))
    refine wpQuiet_nil ?_;refine phase_endL (by kernel_rfl) ?_;have HR':=Lib.hid (below_step bb (d3.drew) (Nat.le_refl _));clear bb d3 v0 v1 v2;go_wp2_with fail
    go_roundw
    case rel=>exact ⟨0 + 1,by omega,by go_num,HR'⟩
    case measure=>simp [intOf] <;> omega
   ·obtain ⟨b',o',A6,n6,c6,hAe,p0,p1,p2,hb'B,hbf⟩:=HPV.out (by omega)
    injection hAe with hAe
    injection hAe with hA1 hA2
    subst hA1 hA2;have p0':=cell_mv (G:=fun _=>False) ((d3.cell (p:=⟨b,o + (k - 1) * 3,none⟩) (by have:=HBB.out; have:=bb.size; dsimp only; omega)).trans p0) (fun h=>h);have p1':=cell_mv (G:=fun _=>False) ((d3.cell (p:=⟨b,o + (k - 1) * 3 + 1,none⟩) (by have:=HBB.out; have:=bb.size; dsimp only; omega)).trans p1) (fun h=>h);have p2':=cell_mv (G:=fun _=>False) ((d3.cell (p:=⟨b,o + (k - 1) * 3 + 2,none⟩) (by have:=HBB.out; have:=bb.size; dsimp only; omega)).trans p2) (fun h=>h);have e3:decide ((k:Int) > 0)=true:=decide_eq_true (by omega);have e3':decide (0 < k)=true:=decide_eq_true (by omega);have j0:(0:Int)≤(k:Int) - 1:=by omega
    have j1:(k:Int) - 1 < (n:Int):=by omega
    have j2:(k:Int) - 1=((k - 1:Nat):Int):=by omega
    have AH:=Lib.hid (fun w1=>sahead_any (fs.getD (k - 1) vl0).index (fs.getD (k - 1) vl0).sub ix sb A6 A5 n6 c6 n5 c5 w1);unfold vlV at AH;have hbf2:Ent.befB (plE (fs.getD (k - 1) vl0).index (fs.getD (k - 1) vl0).sub) (plE ix sb)=true:=hbf;rw [hbf2] at AH;clear p0 p1 p2 q0 q1 q2 hbf hbf2 HPV;generalize (fs.getD (k - 1) vl0).index=ix8 at p0' AH;generalize (fs.getD (k - 1) vl0).sub=sb8 at p1' AH;refine region_mv 99 (fun _=>False) (by kernel_rfl) ?_;refine phase_mv (by kernel_rfl) 3 (Mv.refl _ _).drew [0,1,2,3,4,5,6,7,8] rfl (by kernel_rfl) ?_;simp only [picks,nth]
    repeat (go_big_quiet_step (fail))
    refine wpQuiet_nil ?_;refine phase_opL 9 2 rfl (by kernel_rfl) (by decide) ?_;simp only [nth];go_wp2_with fail
    refine (AH.out _).mono ?_;rintro e w4 ⟨rfl,b4⟩;have bd:Below w3.heap.size w3 w4:=(below_drew w3).trans b4;go_wp2_with fail
    refine behind_mv (Mv.of_new bd _) ?_;refine phase_mv (by kernel_rfl) 0 (Mv.of_new bd _) [10,11] rfl (by kernel_rfl) ?_;simp only [picks,nth]
    repeat (go_big_quiet_step (fail))
    refine wpQuiet_nil ?_;refine phase_endL (by kernel_rfl) ?_;have HR':=Lib.hid (below_step (below_step bb d3 (Nat.le_refl _)) bd (Nat.le_refl _));clear bb d3 v0 v1 v2 p0' p1' p2' bd b4 AH;go_wp2_with fail
    go_roundw
    case rel=>exact ⟨k + 1,by omega,by go_num,HR'⟩
    case measure=>simp [intOf] <;> omega
  ·obtain rfl:k=n:=by omega
   obtain ⟨w11,hw⟩:∃ w,w=wr:=⟨wr,rfl⟩;subst hw;go_wp2_with fail
   go_loopw [6,34] (fun u v wr=>∃ (j m1:Nat) (A1:Option Addr) (c1:Nat) (l:List UInt8),j≤k∧v=.int .i64 j∧u=.slice A1 m1 c1∧Hid (m1=Sn.sizeV (fs.take j))∧Hid (OB wr w.heap.size A1 m1 c1 l∧Below w.heap.size w wr)) (fun _ v _=>k - (intOf v).toNat)
   case atStart=>exact ⟨0,0,_,_,[],by omega,rfl,rfl,Lib.hid rfl,Lib.hid ⟨OB.none_ _ _,HR.out⟩⟩
   case round =>
    obtain ⟨j,m1,A1,c1,l,hj,rfl,rfl,HM,HQ⟩:=hrel;clear HR
    by_cases hlt2:j < k
    ·obtain ⟨ob,bb⟩:=HQ.out
     have hrv:=HN.out wr bb;obtain ⟨b,o,A5,n5,c5,rfl,hbB,q0,q1,q2,hr⟩:=hrv.at_ hlt2;have hth:=HD.out j (by omega);have hst:=HS.out j (by omega);have hle:=HL.out (j + 1);have hrl:=hr.len;have i0:(0:Int)≤(j:Int):=by omega
     have i1:(j:Int) < (k:Int):=by omega
     have hv0:fs.getD j ⟨0,0,[]⟩=fs.getD j vl0:=rfl;rw [hv0] at hst;generalize fs.getD j vl0=f at *;obtain ⟨ix,sb,dat⟩:=f;dsimp only at q0 q1 hth hr hst hrl;subst hrl;obtain ⟨a,b0,rfl,rfl,ha,hb0⟩:=there_nat hth;rw [← HM.out] at hst;rw [hst] at hle;have hd5:dat.length≤960:=by omega
     have hm1:m1≤960:=by omega
     obtain ⟨u1,u2,u3⟩:=bld_nums ha hb0 hd5;have U:=Lib.hid (And.intro u1 (And.intro u2 u3));have hwr:wrap64 (955 - (m1:Int))=955 - (m1:Int):=IntWalk.wrap64_in _ (by omega);have e1:decide ((955:Int) - (m1:Int) < (dat.length:Int))=false:=decide_eq_false (by omega);have e1w:decide (wrap64 (955 - (m1:Int)) < (dat.length:Int))=false:=by rw [hwr]; exact e1
     clear hwr;have HST:=Lib.hid hst;have b2:=alloc_one wr (.cells #[.int .i64 (a:Int),.int .i64 (b0:Int),.slice A5 dat.length c5] 34);have K2:=Blk.new wr 34 #[.int .i64 (a:Int),.int .i64 (b0:Int),.slice A5 dat.length c5];have C2:=K2.three;have d2:=below_step bb b2 (Nat.le_refl _);have P1:=Lib.hid (fun w1 (hw1:Below (wr.alloc (.cells #[.int .i64 (a:Int),.int .i64 (b0:Int),.slice A5 dat.length c5] 34)).heap.size (wr.alloc (.cells #[.int .i64 (a:Int),.int .i64 (b0:Int),.slice A5 dat.length c5] 34)) w1)=>Put_ok 2 a w1 ((ob.rb.below (b2.mono (Nat.le_refl _))).below (hw1.mono b2.size)) (by omega) (Nat.le_trans b2.size hw1.size) (by decide) (by decide) (by have:(256:Nat) ^ 2=65536:=rfl; omega) ha);have HRB:=Lib.hid (fun (w2:World) (b:Below w.heap.size w w2)=>(HN.out w2 b));have HB2:=Lib.hid (Nat.le_trans HBB.out.2 HBB.out.1);have HRD:=Lib.hid (fun (w2:World) (hb:Below wr.heap.size wr w2)=>hr.below (hb.mono (Nat.le_trans HB2.out bb.size)));clear hrv hr hth hst hle u1 u2 u3 ob bb HQ HM HRB;obtain ⟨u1,u2,u3⟩:=U.out;go_wp2_with fail
     refine (P1.out _ (Below.refl _ _)).mono ?_;rintro e w3 ⟨A2,c2,rfl,o3,b3⟩;clear P1 C2;have K3:=K2.later b3;have C3:=K3.three;have d3:=below_step d2 b3 (Nat.le_refl _);have e3:Below wr.heap.size wr w3:=b2.trans (b3.mono b2.size);have P2:=Lib.hid (Put_ok 1 b0 w3 o3.rb (by omega) (Nat.le_refl _) (by decide) (by decide) (by have:(256:Nat) ^ 1=256:=rfl; omega) hb0);clear K2 b2 b3 d2 o3;go_wp2_with fail
     refine (P2.out).mono ?_;rintro e w4 ⟨A3,c3,rfl,o4,b4⟩;clear P2 C3;have K4:=K3.later b4;have C4:=K4.three;have d4:=below_step d3 b4 (Nat.le_refl _);have e4:=e3.trans (b4.mono e3.size);have P3:=Lib.hid (Put_ok 2 dat.length w4 o4.rb (by omega) (Nat.le_refl _) (by decide) (by decide) (by omega) (by have:(256:Nat) ^ 2=65536:=rfl; omega));clear K3 b4 d3 o4 e3;go_wp2_with fail
     refine (P3.out).mono ?_;rintro e w5 ⟨A4,c4,rfl,o5,b5⟩;clear P3 C4;have K5:=K4.later b5;have C5:=K5.three;have d5:=below_step d4 b5 (Nat.le_refl _);have e5:=e4.trans (b5.mono e4.size);have o5':=o5.more (show w.heap.size≤w4.heap.size from d4.size);have hr5:=HRD.out w5 e5;clear K4 b5 d4 o5 e4;go_wp2_with (at_builtin; refine wpList_appb etb rfl (.tmp 70) (.tmp 72) rfl rfl rfl w.heap.size o5' hr5 (by omega) d5.size ?_; intro A7 c7 w7 o7 b7 _ _)
     have HF:=Lib.hid (And.intro o7 (d5.trans b7));have hm7:m1 + 2 + 1 + 2 + dat.length=m1 + (5 + dat.length):=by omega
     have HM7:=Lib.hid (hm7.trans HST.out.symm);clear o5' hr5 o7 b7 d5 e5 C5 K5 HST hm7;go_roundw
     case rel=>exact ⟨j + 1,m1 + 2 + 1 + 2 + dat.length,A7,c7,_,by omega,by go_num,rfl,HM7,HF⟩
     case measure=>simp [intOf] <;> omega
    ·obtain rfl:j=k:=by omega
     have HM2:=Lib.hid (HM.out.trans (by rw [HALL.out]));clear HM;go_wp2_with fail
     go_ret2
     obtain ⟨ob,bb⟩:=HQ.out;have hm:=HM2.out;subst hm;exact ⟨A1,c1,l,rfl,ob,bb⟩
end Go.Proofs.YtijegngfclkdaaaGreatDoor
namespace Go.Proofs.YtijegngfclkdaaaGreatDoor
open Go.RowKit
structure Rdy (f:Fla) (L:List Jr.Look) (now:Nat) (has:Bool) (n m d:Nat):Prop where
 off:f.off=false
 hn:n=m * 1024
 hm1:1≤m
 hm:m≤8
 hL:L.length=m
 most:0≤f.most∧f.most≤2000000000
 hw:∀ i,f.wear.getD i 0≤1000000∧(f.wear.getD i 0:Int) < f.most
 hnow:has=true→now < m
 fin:∀ i,(L.getD i lk0).fin≤1024∧(L.getD i lk0).count≤1024
 h00:∀ i,(L.getD i lk0).count=0→(L.getD i lk0).fin=0
 num:numS L now has < 4294967296
 hR:InR f (d + 14)
def apV (x:Vau) (o:ApO):Vau:={ x with L:=o.L,now:=o.now,has:=o.has,dead:=o.dead }
def WrtP (w:World) (base gf:Nat) (Ab:Option Addr) (n cb:Nat) (A':Option Addr) (m c':Nat) (F:Nat→Prop) (gv gj gl:Nat) (A:Option Addr) (c:Nat) (As:Option Addr) (cs:Nat) (f:Fla) (x:Vau) (kind N:Nat) (e:Ending) (w':World):Prop :=
 ∃ (bs:List UInt8) (v:Value) (xs':List Value),bs.length=N∧e=.returned v∧FV w' w.heap.size (appA f x.L x.now x.has kind bs).code v∧Mv (fun q=>q=gj∨q=gl∨FF gf Ab n cb A' m c' q) w w'∧FlM w' base gf Ab n cb A' m c' (appA f x.L x.now x.has kind bs).f ∧
  VaM w' (fun q=>F q∨(w.heap.size≤q∧q < w'.heap.size)) gv gj gl A c xs' gf As cs (apV x (appA f x.L x.now x.has kind bs))
theorem app_codes (f:Fla) (L:List Jr.Look) (now:Nat) (has:Bool) (kind:Nat) (data:List UInt8):(appA f L now has kind data).code=0∨(appA f L now has kind data).code=6∨(appA f L now has kind data).code=7∨(appA f L now has kind data).code=10:=by
 have key:∀ (f:Fla) (L:List Jr.Look) (at_:Nat) (r:Jr.Rec),(progA f L now has at_ r).code=0∨(progA f L now has at_ r).code=6∨(progA f L now has at_ r).code=7∨(progA f L now has at_ r).code=10:=fun f L at_ r=>by
  unfold progA;split
  ·exact .inl rfl
  ·exact .inr (.inr (.inl rfl))
 unfold appA;split
 ·exact .inr (.inl rfl)
 ·split
  ·exact .inr (.inr (.inr rfl))
  ·split
   ·split
    ·exact .inr (.inr (.inl rfl))
    ·exact key _ _ _ _
   ·exact key _ _ _ _
theorem wrt_end {w w5 w6 w7:World} {base gf n cb m c' gv gj gl c cs kind N:Nat} {Ab A' A As:Option Addr} {F:Nat→Prop} {f:Fla} {x:Vau} {bs:List UInt8} {u v:Value} {xs0:List Value} {e:Ending}
  (hx:VaM w5 F gv gj gl A c xs0 gf As cs x) (hFl:∀ q,F q→q < w.heap.size) (hFF:∀ q,FF gf Ab n cb A' m c' q→q < w.heap.size) (hap:∀ q,FF gf Ab n cb A' m c' q→¬ F q) (d5:Below w.heap.size w w5) (h5:w.heap.size < w5.heap.size)
  (ap:AppP base gf Ab n cb A' m c' gj gl A c (fun q=>F q∧q≠gv) (appA f x.L x.now x.has kind bs) w5 e w6) (b7:Below w6.heap.size w6 w7) (fv:FV w7 w6.heap.size (appA f x.L x.now x.has kind bs).code v) (hbs:bs.length=N) :
  WrtP w base gf Ab n cb A' m c' F gv gj gl A c As cs f x kind N (.returned v) (w7.setCell ⟨w.heap.size,0,none⟩ u):=by
 obtain ⟨_,m6,f6,xs',J6⟩:=ap;have hgj:=hx.jo.blk.lt;have hm7:=Mv.setCell w7 ⟨w.heap.size,0,none⟩ u;have hs6:=m6.size;have hs7:=b7.size;have hs8:=hm7.size;have V6:=(hx.jrn m6 (fun q hq hf=>hap q hf hq) J6).below b7;have F7:=f6.below b7;have hgjl:gj < w.heap.size:=hFl gj hx.jo.fg.1;refine ⟨bs,v,xs',hbs,rfl,?_,?_,F7.mv hm7 fun q hq e=>?_,(V6.mv hm7 fun q _ hq e=>?_).mono fun q hq hf=>?_⟩
 ·rcases fv with fv | ⟨h1,p,q,h2,h3⟩
  ·exact .inl fv
  ·have hp:=h3.bp
   have hq:=h3.bq;refine .inr ⟨h1,p,q,h2,by omega,by omega,h3.link.mv hm7 fun e=>?_,h3.words.mv hm7 fun e=>?_⟩
   ·have e2:p=w.heap.size:=e; omega
   ·have e2:q=w.heap.size:=e; omega
 ·refine ⟨hm7.os.trans (b7.os.trans (m6.os.trans d5.os)),hm7.tape.trans (b7.tape.trans (m6.tape.trans d5.tape)),hm7.output.trans (b7.output.trans (m6.output.trans d5.output)),by omega,fun b hb hF=>?_⟩
  rw [hm7.block b (by omega) (fun e=>by have e2:b=w.heap.size:=e; omega),b7.block b (by omega),m6.block b (by omega) hF,d5.block b hb]
 ·have e2:q=w.heap.size:=e
  have:=hFF q hq;omega
 ·have e2:q=w.heap.size:=e
  rcases hq with hq | hq
  ·have:=hFl q hq; omega
  ·omega
 ·rcases hf with hf | hf
  ·exact .inl hf
  ·exact .inr ⟨by omega,hq⟩
theorem vwrite_any {w:World} {F:Nat→Prop} {gv gj gl c gf cs:Nat} {A As:Option Addr} {xs:List Value} {x:Vau} (h:VaM w F gv gj gl A c xs gf As cs x) {base n cb m c':Nat} {Ab A':Option Addr} {f:Fla} (hf:FlM w base gf Ab n cb A' m c' f)
  (hap:∀ q,FF gf Ab n cb A' m c' q→¬ F q) (hFl:∀ q,F q→q < w.heap.size) (hg:ErrG w) (h0:¬ F 0∧¬ FF gf Ab n cb A' m c' 0) {Al:Option Addr} {k cl B B':Nat} {l:List Dc.Vl} (hl:RVl w B B' Al k cl l) (hB:B≤w.heap.size) (hB':B'≤B) (ho:OrdV l) (ht:∀ f∈l,thereB f.index f.sub=true) (hs:Sn.sizeV l≤960) (hk:k≤1000)
  (kind:Nat) (hkd:kind=1∨(kind=2∧Sn.sizeV l=0)) (hr:Rdy f x.L x.now x.has n m (Sn.sizeV l)) (hdead:x.dead=false) :
  Calls Tryz.prog 345 #[.pointer (some ⟨gv,0,none⟩),.int .i64 (kind:Int),.slice Al k cl] w (WrtP w base gf Ab n cb A' m c' F gv gj gl A c As cs f x kind (Sn.sizeV l)):=by
 have b1:=alloc_one w (.cells #[.nilIface] 417);have K1:=Blk.new w 417 #[.nilIface];have BU:=Lib.hid (sbuild_ok (w.alloc (.cells #[.nilIface] 417)) (hl.below (b1.mono hB) hB') (Nat.le_trans hB b1.size) hB' ho ht hs hk);have HV:=Lib.hid h;have HF:=Lib.hid hf;have HAP:=Lib.hid (And.intro hap (And.intro hFl (And.intro hg h0)));have HR:=Lib.hid (And.intro hr (And.intro hkd hs));have HDE:=Lib.hid hdead;have HB1:=Lib.hid b1;have HK1:=Lib.hid K1;have hs1:(w.alloc (.cells #[.nilIface] 417)).heap.size=w.heap.size + 1:=World.size_alloc _ _;have HS1:=Lib.hid hs1;clear h hf hap hFl hg h0 hl hB hB' ho ht hs hk hkd hr b1 K1 hs1 hdead;go_enter Tryz.func345,Tryz.ntmps345
 go_wp2_with fail
 generalize w.alloc (.cells #[.nilIface] 417)=w1 at *;refine (BU.out).mono ?_;rintro e w2 ⟨A2,c2,bs,rfl,o2,b2⟩;have D2:=Lib.hid (below_step HB1.out b2 (Nat.le_refl _));have HO2:=Lib.hid o2;have HS2:=Lib.hid b2.size;have HK2:=Lib.hid (HK1.out.later b2);have CA:=Lib.hid (vcause_any 0 (.inl rfl) w2);clear BU b2 o2;go_wp2_with fail
 refine (CA.out).mono ?_;rintro e w3 ⟨v3,rfl,fv3,b3⟩;obtain rfl:v3=flt0:=by
  rcases fv3 with ⟨_,h⟩ | ⟨h,_⟩
  ·exact h
  ·exact absurd rfl h
 have D3:=Lib.hid (below_step D2.out b3 (Nat.le_refl _));have b4:=alloc_one w3 (.cells #[.nilIface] 417);have K4:=(Blk.new w3 417 #[.nilIface]).one;have D4:=Lib.hid (below_step D3.out b4 (Nat.le_refl _));have HO4:=Lib.hid ((HO2.out.below b3).below b4);have HK4:=Lib.hid ((HK2.out.later b3).later b4);have HS4:=Lib.hid (Nat.le_trans HS2.out (Nat.le_trans b3.size b4.size));have DE:=Lib.hid (fvdepth_any (z:=0) (v:=flt0) (base:=0) (w3.alloc (.cells #[.nilIface] 417)) (HAP.out.2.2.1.below D4.out) (.inl ⟨rfl,rfl⟩));unfold flt0 at DE ⊢;rw [if_pos rfl] at DE;clear CA fv3 b3 b4;go_wp2_with fail
 generalize w3.alloc (.cells #[.nilIface] 417)=w4 at *;refine (DE.out).mono ?_;rintro e w5 ⟨rfl,b5⟩;have D5:=Lib.hid (below_step D4.out b5 (Nat.le_refl _));have HO5:=Lib.hid (HO4.out.below b5);have HK5:=Lib.hid (HK4.out.later b5);have HS5:=Lib.hid (Nat.le_trans HS4.out b5.size);have V5:=Lib.hid (HV.out.below D5.out);have F5:=V5.out.four;have hbl:bs.length=Sn.sizeV l:=HO5.out.rb.len;have hap5:∀ q,FF gf Ab n cb A' m c' q→¬ (F q∧q≠gv):=fun q hq hf=>HAP.out.1 q hq hf.1
 have R:=HR.out.1;have J5:JoM w5 (fun q=>F q∧q≠gv) gj gl A c xs x.L x.now x.has gf false:=by have h:=V5.out.jo; rw [HDE.out] at h; exact h
 have AP:=jappend_any J5 (HF.out.below D5.out) hap5 (fun q hq=>Nat.lt_of_lt_of_le (HAP.out.2.1 q hq.1) D5.out.size) (OB.rbp (F:=fun _=>True) (by rw [hbl]; exact HO5.out) fun _ _=>trivial) kind (HR.out.2.1.elim (fun h=>.inl ⟨h,by rw [hbl]; exact HR.out.2.2⟩) fun h=>.inr ⟨h.1,List.eq_nil_of_length_eq_zero (by rw [hbl]; exact h.2)⟩) R.off R.hn R.hm R.hL R.most R.hw R.hnow R.fin R.h00 R.num (by rw [hbl]; exact R.hR);rw [hbl] at AP;have HAA:=Lib.hid AP;have HBL:=Lib.hid hbl;clear DE b5 K4 hbl hap5 R AP J5;go_wp2_with fail
 refine (HAA.out).mono ?_;intro e w6 ap;obtain ⟨rfl,ap2⟩:=ap;have AP6:=Lib.hid (show AppP base gf Ab n cb A' m c' gj gl A c (fun q=>F q∧q≠gv) (appA f x.L x.now x.has kind bs) w5 (.returned (.int .i64 (appA f x.L x.now x.has kind bs).code)) w6 from ⟨rfl,ap2⟩);have K6:=HK5.out.mv ap2.1 (fun e=>by
  have hlt:∀ q,(q=gj∨q=gl∨FF gf Ab n cb A' m c' q)→q < w.heap.size:=fun q hq=>by
   rcases hq with hq | hq | hq
   ·rw [hq]; exact HV.out.jo.blk.lt
   ·rw [hq]
    obtain ⟨r,er,_,hr⟩:=HV.out.jo.own.head (by have:=HR.out.1.hL; have:=HR.out.1.hm1; omega);have:=(HV.out.jo.at_ r (by rw [er]; rfl)).1;omega
   ·exact HF.out.lt hq
  have:=hlt _ e;omega)
 have CA:=Lib.hid (vcause_any (appA f x.L x.now x.has kind bs).code (app_codes _ _ _ _ _ _) w6);have HK6:=Lib.hid K6;clear HAA ap2 K6 F5;go_wp2_with fail
 refine (CA.out).mono ?_;rintro e w7 ⟨v,rfl,fv7,b7⟩;have K7:=HK6.out.later b7;have E:=fun u=>wrt_end (u:=u) V5.out HAP.out.2.1 (fun q hq=>HF.out.lt hq) HAP.out.1 D5.out (by have:=HS5.out; have:=HS1.out; omega) AP6.out b7 fv7 HBL.out
 have k7:=K7.one;have HE:=Lib.hid E;have s0:=fun u=>(K7.set_ 0 u).cell 0
 have HS0:=Lib.hid s0;rcases fv7 with ⟨hz,rfl⟩ | ⟨hz,p,q,rfl,_⟩
 ·clear E hz b7 CA s0 K7
  unfold flt0;go_wp2_with fail
  have s0:=HS0.out .nilIface;exact bodyPost_ret (v:=flt0) (by simp [results,Tryz.results345,go_sem,s0,flt0]) rfl (HE.out _)
 ·clear E hz b7 CA s0 K7
  unfold fltV;go_wp2_with fail
  have s0:=HS0.out (.iface 444 (.pointer (some ⟨p,0,none⟩)));exact bodyPost_ret (v:=fltV p) (by simp [results,Tryz.results345,go_sem,s0,fltV]) rfl (HE.out _)
end Go.Proofs.YtijegngfclkdaaaGreatDoor
