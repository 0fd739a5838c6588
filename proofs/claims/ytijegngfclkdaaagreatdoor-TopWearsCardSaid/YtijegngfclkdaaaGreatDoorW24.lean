/-
  Pieces of the proof: part 24 of 54.
  Conditions: none.
-/
import Derived.Test.YtijegngfclkdaaaGreatDoorW13
import Derived.Test.YtijegngfclkdaaaGreatDoorW14
import Derived.Test.YtijegngfclkdaaaGreatDoorW17
import Derived.Test.YtijegngfclkdaaaGreatDoorW21
import Derived.Test.YtijegngfclkdaaaGreatDoorW23
set_option linter.unusedVariables false
set_option linter.unusedSimpArgs false
set_option maxHeartbeats 100000000
set_option maxRecDepth 100000
namespace Go.Proofs.YtijegngfclkdaaaGreatDoor
open Go.RowKit
def findP (l:List Ent.En) (x y:Int):Int×Bool:=match Dc.findS l x y with | some k=>((k:Int),true) | none=>(0,false)
theorem near_in {l:List Ent.En} (ho:Dc.Ord l) (x y:Int):Dc.inB l x=(nearB l (Dc.seekS l x y:Int) x || nearB l ((Dc.seekS l x y:Int) - 1) x):=by
 have hle:=Dc.seek_le l x y;rw [Dc.in_near ho x y];unfold nearB;rw [Int.toNat_natCast];have e1:decide (0≤(Dc.seekS l x y:Int)∧(Dc.seekS l x y:Int) < (l.length:Int))=decide (Dc.seekS l x y < l.length):=by rw [decide_eq_decide]; omega
 have e2:decide (0≤(Dc.seekS l x y:Int) - 1∧(Dc.seekS l x y:Int) - 1 < (l.length:Int))=decide (1≤Dc.seekS l x y):=by rw [decide_eq_decide]; omega
 have e3:((Dc.seekS l x y:Int) - 1).toNat=Dc.seekS l x y - 1:=by omega
 rw [e1,e2,e3]
theorem find_at {l:List Ent.En} {x y:Int}:findP l x y=if Dc.atB l (Dc.seekS l x y) x y=true then ((Dc.seekS l x y:Int),true) else (0,false):=by
 unfold findP Dc.findS;split <;> rename_i h <;> split at h <;> simp_all
theorem dFind_any {F:Nat→Prop} {w:World} {g gv lc vc:Nat} {la:Addr} {vA:Option Addr} {xs vs:List Value} {D:Dc.Dic} (x y:Int) (h:DRt 131 w F g gv (some la) lc vA vc xs vs D):Calls Tryz.prog 56 #[.pointer (some ⟨g,0,none⟩),.int .i64 x,.int .i64 y] w fun e w'=>e=.returned (.tuple #[.int .i64 (findP D.l x y).1,.bool (findP D.l x y).2])∧Below w.heap.size w w':=by
 have S:=Lib.hid (dseek_any x y h);have AT:=fun (w1:World) (hb:Below w.heap.size w w1)=>dat_any (Dc.seekS D.l x y) x y (h.below hb)
 rw [find_at];generalize Dc.seekS D.l x y=k at *;cases ha:Dc.atB D.l k x y with
 | true =>
  rw [ha] at AT;rw [if_pos rfl];replace AT:=Lib.hid AT;clear ha h;go_enter Tryz.func56,Tryz.ntmps56
  go_wp2_with fail
  refine (S.out).mono ?_;rintro e w1 ⟨rfl,b1⟩;go_wp2_with fail
  refine (AT.out _ b1).mono ?_;rintro e w2 ⟨rfl,rfl⟩;go_wp2_with fail
  go_ret2
  exact ⟨rfl,b1⟩
 | false =>
  rw [ha] at AT;rw [if_neg (by decide)];replace AT:=Lib.hid AT;clear ha h;go_enter Tryz.func56,Tryz.ntmps56
  go_wp2_with fail
  refine (S.out).mono ?_;rintro e w1 ⟨rfl,b1⟩;go_wp2_with fail
  refine (AT.out _ b1).mono ?_;rintro e w2 ⟨rfl,rfl⟩;go_wp2_with fail
  go_ret2
  exact ⟨rfl,b1⟩
def locP (l:List Ent.En) (x y:Int):Int×Int:=match Dc.findS l x y with | some k=>((k:Int),0) | none=>(0,if Dc.inB l x=true then 101253137 else 100794368)
theorem loc_at {l:List Ent.En} (ho:Dc.Ord l) {x y:Int}:locP l x y=if Dc.atB l (Dc.seekS l x y) x y=true then ((Dc.seekS l x y:Int),0) else if nearB l (Dc.seekS l x y:Int) x=true then (0,101253137) else if nearB l ((Dc.seekS l x y:Int) - 1) x=true then (0,101253137) else (0,100794368):=by
 have hn:=near_in ho x y;unfold locP;cases h:Dc.findS l x y with
 | some k =>
  unfold Dc.findS at h;split at h
  ·rename_i ha; rw [if_pos ha]; cases h; rfl
  ·cases h
 | none =>
  unfold Dc.findS at h;split at h
  ·cases h
  ·rename_i ha
   rw [if_neg ha];dsimp only;rw [hn];cases nearB l (Dc.seekS l x y:Int) x <;> cases nearB l ((Dc.seekS l x y:Int) - 1) x <;> rfl
theorem dlocate_any {F:Nat→Prop} {w:World} {g gv lc vc:Nat} {la:Addr} {vA:Option Addr} {xs vs:List Value} {D:Dc.Dic} (x y:Int) (h:DRt 131 w F g gv (some la) lc vA vc xs vs D):Calls Tryz.prog 177 #[.pointer (some ⟨g,0,none⟩),.int .i64 x,.int .i64 y] w fun e w'=>e=.returned (.tuple #[.int .i64 (locP D.l x y).1,.int .u32 (locP D.l x y).2])∧Below w.heap.size w w':=by
 have S:=Lib.hid (dseek_any x y h);have TH:=Lib.hid (dthere_any h);have hfew:=h.few;have hk:=Dc.seek_le D.l x y;have AT:=fun (w1:World) (hb:Below w.heap.size w w1)=>dat_any (Dc.seekS D.l x y) x y (h.below hb)
 have I1:=fun (w1:World) (hb:Below w.heap.size w w1)=>din_any (Dc.seekS D.l x y:Int) x y (h.below hb)
 have I2:=fun (w1:World) (hb:Below w.heap.size w w1)=>din_any ((Dc.seekS D.l x y:Int) - 1) x y (h.below hb)
 rw [loc_at h.ord];generalize Dc.seekS D.l x y=k at *;generalize Dc.atB D.l k x y=a1 at *;generalize nearB D.l (k:Int) x=a2 at *;generalize nearB D.l ((k:Int) - 1) x=a3 at *;cases a1 with
 | true =>
  rw [if_pos rfl];clear h;replace AT:=Lib.hid AT; replace I1:=Lib.hid I1; replace I2:=Lib.hid I2;go_enter Tryz.func177,Tryz.ntmps177
  go_wp2_with fail
  refine (TH.out).mono ?_;rintro e w ⟨rfl,rfl⟩;go_wp2_with fail
  refine (S.out).mono ?_;rintro e w1 ⟨rfl,b1⟩;go_wp2_with fail
  refine (AT.out _ b1).mono ?_;rintro e w2 ⟨rfl,rfl⟩;go_wp2_with fail
  go_ret2
  exact ⟨rfl,b1⟩
 | false =>
 rw [if_neg (by decide)];cases a2 with
 | true =>
  rw [if_pos rfl];clear h;replace AT:=Lib.hid AT; replace I1:=Lib.hid I1; replace I2:=Lib.hid I2;go_enter Tryz.func177,Tryz.ntmps177
  go_wp2_with fail
  refine (TH.out).mono ?_;rintro e w ⟨rfl,rfl⟩;go_wp2_with fail
  refine (S.out).mono ?_;rintro e w1 ⟨rfl,b1⟩;go_wp2_with fail
  refine (AT.out _ b1).mono ?_;rintro e w2 ⟨rfl,rfl⟩;go_wp2_with fail
  refine (I1.out _ b1).mono ?_;rintro e w2 ⟨rfl,rfl⟩;go_wp2_with fail
  go_ret2
  exact ⟨rfl,b1⟩
 | false =>
 rw [if_neg (by decide)];cases a3 with
 | true =>
  rw [if_pos rfl];clear h;replace AT:=Lib.hid AT; replace I1:=Lib.hid I1; replace I2:=Lib.hid I2;go_enter Tryz.func177,Tryz.ntmps177
  go_wp2_with fail
  refine (TH.out).mono ?_;rintro e w ⟨rfl,rfl⟩;go_wp2_with fail
  refine (S.out).mono ?_;rintro e w1 ⟨rfl,b1⟩;go_wp2_with fail
  refine (AT.out _ b1).mono ?_;rintro e w2 ⟨rfl,rfl⟩;go_wp2_with fail
  refine (I1.out _ b1).mono ?_;rintro e w2 ⟨rfl,rfl⟩;go_wp2_with fail
  refine (I2.out _ b1).mono ?_;rintro e w2 ⟨rfl,rfl⟩;go_wp2_with fail
  go_ret2
  exact ⟨rfl,b1⟩
 | false =>
  rw [if_neg (by decide)];clear h;replace AT:=Lib.hid AT; replace I1:=Lib.hid I1; replace I2:=Lib.hid I2;go_enter Tryz.func177,Tryz.ntmps177
  go_wp2_with fail
  refine (TH.out).mono ?_;rintro e w ⟨rfl,rfl⟩;go_wp2_with fail
  refine (S.out).mono ?_;rintro e w1 ⟨rfl,b1⟩;go_wp2_with fail
  refine (AT.out _ b1).mono ?_;rintro e w2 ⟨rfl,rfl⟩;go_wp2_with fail
  refine (I1.out _ b1).mono ?_;rintro e w2 ⟨rfl,rfl⟩;go_wp2_with fail
  refine (I2.out _ b1).mono ?_;rintro e w2 ⟨rfl,rfl⟩;go_wp2_with fail
  go_ret2
  exact ⟨rfl,b1⟩
end Go.Proofs.YtijegngfclkdaaaGreatDoor
namespace Go.Proofs.YtijegngfclkdaaaGreatDoor
open Go.RowKit
theorem down_any {A:Option Addr} {n c B:Nat} {l:List UInt8} (w:World) (h:RB w B A n c l) (hn:n < 140737488355328) (hB:B≤w.heap.size) :
  Calls Tryz.prog 60 #[.slice A n c] w fun e w'=>∃ A1 c1,e=.returned (.slice A1 n c1)∧OB w' w.heap.size A1 n c1 l∧Below w.heap.size w w':=by
 go_enter Tryz.func60,Tryz.ntmps60
 go_wp2_with (at_builtin; refine wpList_appb_nil etb rfl (.const (.slice none 0 0)) (.tmp 3) rfl rfl rfl w.heap.size h (by omega) (Nat.le_refl _) ?_; intro A1 c1 w1 h1 hb1)
 go_ret
 exact ⟨_,_,rfl,h1,hb1⟩
theorem held_any (e:Ent.En) {A:Option Addr} {n c B:Nat} (w:World) (hb:RB w B A n c e.dflt) (hn:n < 140737488355328) (hB:B≤w.heap.size) :
  Calls Tryz.prog 79 #[enV e A n c] w fun x w'=>∃ A1 c1,x=.returned (enV e A1 n c1)∧OB w' w.heap.size A1 n c1 e.dflt∧Below w.heap.size w w':=by
 have hcells:=enL e A n c;obtain ⟨ix,sb,nm,ty,ac,mp,st,mx,lo,hi,df⟩:=e;dsimp only at hb;unfold enV;dsimp only;have OWN:=down_any ((w.alloc (.cells #[.int .i64 ix,.int .i64 sb,.string (T nm),.int .i64 ty,.int .i64 ac,.bool mp,.bool st,.int .i64 mx,.int .i64 lo,.int .i64 hi,.slice A n c] 27)).alloc (.cells #[.int .i64 0,.int .i64 0,.string ⟨#[]⟩,.int .i64 0,.int .i64 0,.bool false,.bool false,.int .i64 0,.int .i64 0,.int .i64 0,.slice none 0 0] 27)) ((hb.alloc hB _).alloc (by simp; omega) _) hn (by simp; omega);replace OWN:=Lib.hid OWN;clear hb;go_enter Tryz.func79,Tryz.ntmps79
 go_wp2_with fail
 refine (OWN.out).mono ?_;rintro e w1 ⟨A1,c1,rfl,o1,b1⟩;have K1:=((Blk.new w 27 #[.int .i64 ix,.int .i64 sb,.string (T nm),.int .i64 ty,.int .i64 ac,.bool mp,.bool st,.int .i64 mx,.int .i64 lo,.int .i64 hi,.slice A n c]).alloc (.cells #[.int .i64 0,.int .i64 0,.string ⟨#[]⟩,.int .i64 0,.int .i64 0,.bool false,.bool false,.int .i64 0,.int .i64 0,.int .i64 0,.slice none 0 0] 27)).later b1;have K2:=(Blk.new (w.alloc (.cells #[.int .i64 ix,.int .i64 sb,.string (T nm),.int .i64 ty,.int .i64 ac,.bool mp,.bool st,.int .i64 mx,.int .i64 lo,.int .i64 hi,.slice A n c] 27)) 27 #[.int .i64 0,.int .i64 0,.string ⟨#[]⟩,.int .i64 0,.int .i64 0,.bool false,.bool false,.int .i64 0,.int .i64 0,.int .i64 0,.slice none 0 0]).later b1;have d1:=below_step (alloc_two w (.cells #[.int .i64 ix,.int .i64 sb,.string (T nm),.int .i64 ty,.int .i64 ac,.bool mp,.bool st,.int .i64 mx,.int .i64 lo,.int .i64 hi,.slice A n c] 27) (.cells #[.int .i64 0,.int .i64 0,.string ⟨#[]⟩,.int .i64 0,.int .i64 0,.bool false,.bool false,.int .i64 0,.int .i64 0,.int .i64 0,.slice none 0 0] 27)) b1 (Nat.le_refl _);have E1:=K1.eleven;have E2:=K2.eleven;simp only [World.size_alloc] at K2 E2;simp only [World.size_alloc] at o1;have hne:w.heap.size + 1≠w.heap.size:=by omega
 go_wp2_with fail
 have K3:=(K2.far (p:=⟨w.heap.size,10,none⟩) hne (.slice A1 n c1)).store11 (.int .i64 ix) (.int .i64 sb) (.string (T nm)) (.int .i64 ty) (.int .i64 ac) (.bool mp) (.bool st) (.int .i64 mx) (.int .i64 lo) (.int .i64 hi) (.slice A1 n c1);have R:=K3.eleven.1;have d2:=below_set11 (g:=w.heap.size + 1) (d1.setCell (p:=⟨w.heap.size,10,none⟩) (Nat.le_refl _) (.slice A1 n c1)) (by omega) (.int .i64 ix) (.int .i64 sb) (.string (T nm)) (.int .i64 ty) (.int .i64 ac) (.bool mp) (.bool st) (.int .i64 mx) (.int .i64 lo) (.int .i64 hi) (.slice A1 n c1);have o2:=((o1.far (g:=w.heap.size) (by omega) 10 (.slice A1 n c1)).far11 (g:=w.heap.size + 1) (by omega) (.int .i64 ix) (.int .i64 sb) (.string (T nm)) (.int .i64 ty) (.int .i64 ac) (.bool mp) (.bool st) (.int .i64 mx) (.int .i64 lo) (.int .i64 hi) (.slice A1 n c1)).more (base':=w.heap.size) (by omega);exact bodyPost_ret (v:=.agg #[.int .i64 ix,.int .i64 sb,.string (T nm),.int .i64 ty,.int .i64 ac,.bool mp,.bool st,.int .i64 mx,.int .i64 lo,.int .i64 hi,.slice A1 n c1]) (by simp [results,Tryz.results79,go_sem,R]) rfl ⟨A1,c1,rfl,o2,d2⟩
end Go.Proofs.YtijegngfclkdaaaGreatDoor
namespace Go.Proofs.YtijegngfclkdaaaGreatDoor
open Go.RowKit
theorem loc_some {l:List Ent.En} {x y:Int} {k:Nat} (h:Dc.findS l x y=some k):locP l x y=((k:Int),0):=by unfold locP; rw [h]
theorem loc_none {l:List Ent.En} {x y:Int} (h:Dc.findS l x y=none):locP l x y=(0,if Dc.inB l x=true then 101253137 else 100794368):=by unfold locP; rw [h]
theorem findP_some {l:List Ent.En} {x y:Int} {k:Nat} (h:Dc.findS l x y=some k):findP l x y=((k:Int),true):=by unfold findP; rw [h]
theorem findP_none {l:List Ent.En} {x y:Int} (h:Dc.findS l x y=none):findP l x y=(0,false):=by unfold findP; rw [h]
def PeekP (v:Option (List UInt8)) (w:World) (e:Ending) (w':World):Prop:=match v with
 | none=>e=.returned (.tuple #[.slice none 0 0,.bool false])∧Below w.heap.size w w'
 | some b=>∃ A c,e=.returned (.tuple #[.slice A b.length c,.bool true])∧OB w' w.heap.size A b.length c b∧Below w.heap.size w w'
theorem val_len {D:Dc.Dic} (hr:∀ v∈D.v,v.length≤1000000) {k:Nat} (hk:k < D.v.length):(D.v.getD k []).length≤1000000:=by
 rw [List.getD_eq_getElem?_getD,List.getElem?_eq_getElem hk];exact hr _ (List.getElem_mem hk)
theorem dPeek_any {F:Nat→Prop} {w:World} {g gv lc vc:Nat} {la:Addr} {vA:Option Addr} {xs vs:List Value} {D:Dc.Dic} (x y:Int) (h:DRt 131 w F g gv (some la) lc vA vc xs vs D) (hv:∀ v∈D.v,v.length≤1000000):Calls Tryz.prog 26 #[.pointer (some ⟨g,0,none⟩),.int .i64 x,.int .i64 y] w (PeekP (Dc.peekS D x y) w):=by
 have FD:=dFind_any x y h;cases hf:Dc.findS D.l x y with
 | none =>
  rw [findP_none hf] at FD;dsimp only at FD;replace FD:=Lib.hid FD;have hp:Dc.peekS D x y=none:=by unfold Dc.peekS; rw [hf]; rfl
  rw [hp];clear hp hf h;go_enter Tryz.func26,Tryz.ntmps26
  go_wp2_with fail
  refine (FD.out).mono ?_;rintro e w1 ⟨rfl,b1⟩;go_wp2_with fail
  go_ret2
  exact ⟨rfl,b1⟩
 | some k =>
  rw [findP_some hf] at FD;dsimp only at FD;replace FD:=Lib.hid FD;have hp:Dc.peekS D x y=some (D.v.getD k []):=by unfold Dc.peekS; rw [hf]; rfl
  rw [hp];have hk:=(Dc.find_some hf).2.1;have hvl:=val_len hv (k:=k) (by rw [h.len]; exact hk);clear hp hf;go_enter Tryz.func26,Tryz.ntmps26
  go_wp2_with fail
  refine (FD.out).mono ?_;rintro e w1 ⟨rfl,b1⟩;have h2:=h.below b1;obtain ⟨t0,t1⟩:=h2.two;obtain ⟨A,n,c,hA,_,hg,hr,hcell,_⟩:=h2.value hk;subst hA;have hn:=hr.len;have OWN:=Lib.hid (down_any w1 hr (by omega) (Nat.le_refl _));have hcap:D.l.length≤vc∧vc≤9223372036854775807:=⟨h2.own.rv.le,h2.own.rv.cap⟩;have HC:=Lib.hid hcap;clear hr hcap;generalize D.v.getD k []=val at *;subst hn;generalize D.l.length=m at *;go_wp2_with fail
  refine (OWN.out).mono ?_;rintro e w2 ⟨A1,c1,rfl,o2,b2⟩;go_wp2_with fail
  go_ret2
  exact ⟨A1,c1,rfl,o2.more b1.size,below_step b1 b2 (Nat.le_refl _)⟩
def mayP (l:List Ent.En) (any:Bool) (x y:Int) (b:List UInt8):Int×Int:=match Dc.findS l x y with
 | none=>(0,if Dc.inB l x=true then 101253137 else 100794368)
 | some k=>((k:Int),if any=false∧Ent.writS (l.getD k Dc.en0)≠0 then Ent.writS (l.getD k Dc.en0) else Ent.valS (l.getD k Dc.en0) b)
theorem mayP_snd (l:List Ent.En) (any:Bool) (x y:Int) (b:List UInt8):(mayP l any x y b).2=Dc.mayS l any x y b:=by
 unfold mayP Dc.mayS;cases Dc.findS l x y <;> rfl
theorem dmay_any {F:Nat→Prop} {w:World} {g gv lc vc:Nat} {la:Addr} {vA:Option Addr} {xs vs:List Value} {D:Dc.Dic} (any:Bool) (x y:Int) {A':Option Addr} {n' c' B:Nat} {b:List UInt8} (h:DRt 131 w F g gv (some la) lc vA vc xs vs D) (hb:RB w B A' n' c' b) (hB:B≤w.heap.size):Calls Tryz.prog 124 #[.pointer (some ⟨g,0,none⟩),.int .i64 x,.int .i64 y,.slice A' n' c',.bool any] w fun e w'=>e=.returned (.tuple #[.int .i64 (mayP D.l any x y b).1,.int .u32 (mayP D.l any x y b).2])∧Below w.heap.size w w':=by
 have LC:=dlocate_any x y h;cases hf:Dc.findS D.l x y with
 | none =>
  rw [loc_none hf] at LC;dsimp only at LC;have hp:mayP D.l any x y b=(0,if Dc.inB D.l x=true then 101253137 else 100794368):=by unfold mayP; rw [hf]
  rw [hp];clear hp hf h hb;dsimp only;have hz:((if Dc.inB D.l x=true then (101253137:Int) else 100794368) == 0)=false:=by split <;> rfl
  generalize (if Dc.inB D.l x=true then (101253137:Int) else 100794368)=code at *;replace LC:=Lib.hid LC;go_enter Tryz.func124,Tryz.ntmps124
  go_wp2_with fail
  refine (LC.out).mono ?_;rintro e w1 ⟨rfl,b1⟩;go_wp2_with fail
  go_ret2
  exact ⟨rfl,b1⟩
 | some k =>
  rw [loc_some hf] at LC;dsimp only at LC;replace LC:=Lib.hid LC;have hp:mayP D.l any x y b=((k:Int),if any=false∧Ent.writS (D.l.getD k Dc.en0)≠0 then Ent.writS (D.l.getD k Dc.en0) else Ent.valS (D.l.getD k Dc.en0) b):=by unfold mayP; rw [hf]
  rw [hp];dsimp only;have hk:=(Dc.find_some hf).2.1;have hcap:=h.lcap;clear hp hf;generalize he:D.l.getD k Dc.en0=e0;have HE:=Lib.hid he;clear he;cases any with
  | true =>
   rw [if_neg (by simp)];go_enter Tryz.func124,Tryz.ntmps124
   go_wp2_with fail
   refine (LC.out).mono ?_;rintro e w1 ⟨rfl,b1⟩;have h2:=h.below b1;obtain ⟨t0,t1⟩:=h2.two;obtain ⟨bb,o,A,n,c,hA,hbB,hr,hc⟩:=h2.entry hk;rw [HE.out] at hc hr;injection hA with hA
   subst hA;have V:=EValue_any e0 A n c w1 (hb.below (b1.mono hB)) (Nat.le_trans hB b1.size);unfold enV at V;have c0:=hc 0 _ rfl;have c1:=hc 1 _ rfl;have c2:=hc 2 _ rfl;have c3:=hc 3 _ rfl;have c4:=hc 4 _ rfl;have c5:=hc 5 _ rfl;have c6:=hc 6 _ rfl;have c7:=hc 7 _ rfl;have c8:=hc 8 _ rfl;have c9:=hc 9 _ rfl;have c10:=hc 10 _ rfl;simp only [Nat.add_zero] at c0;replace V:=Lib.hid V;have HC:=Lib.hid hcap;clear hr hc hcap h2;generalize D.l.length=m at *;go_wp2_with fail
   refine (V.out).mono ?_;rintro e w2 ⟨rfl,b2⟩;go_wp2_with fail
   go_ret2
   exact ⟨rfl,below_step b1 b2 (Nat.le_refl _)⟩
  | false =>
   by_cases hw:Ent.writS e0=0
   ·rw [if_neg (by rw [hw]; simp)]
    go_enter Tryz.func124,Tryz.ntmps124
    go_wp2_with fail
    refine (LC.out).mono ?_;rintro e w1 ⟨rfl,b1⟩;have h2:=h.below b1;obtain ⟨t0,t1⟩:=h2.two;obtain ⟨bb,o,A,n,c,hA,hbB,hr,hc⟩:=h2.entry hk;rw [HE.out] at hc hr;injection hA with hA
    subst hA;have V:=fun (w2:World) (b2:Below w1.heap.size w1 w2)=>EValue_any e0 A n c w2 ((hb.below (b1.mono hB)).below (b2.mono (Nat.le_trans hB b1.size))) (Nat.le_trans hB (Nat.le_trans b1.size b2.size))
    have WR:=fun w=>Writable_any e0 A n c w
    rw [hw] at WR;unfold enV at V WR;have hold:=fun (w2:World) (b2:Below w1.heap.size w1 w2)=>b2
    have c0:=hc 0 _ rfl;have c1:=hc 1 _ rfl;have c2:=hc 2 _ rfl;have c3:=hc 3 _ rfl;have c4:=hc 4 _ rfl;have c5:=hc 5 _ rfl;have c6:=hc 6 _ rfl;have c7:=hc 7 _ rfl;have c8:=hc 8 _ rfl;have c9:=hc 9 _ rfl;have c10:=hc 10 _ rfl;simp only [Nat.add_zero] at c0;replace V:=Lib.hid V; replace WR:=Lib.hid WR;have HC:=Lib.hid hcap;have hbb:=hbB;have hg1:=h2.blk.lt;clear hr hc hcap h2 hw hold;generalize D.l.length=m at *;go_wp2_with fail
    refine (WR.out _).mono ?_;rintro e w2 ⟨rfl,b2⟩;obtain ⟨k1,k2⟩:=bcell b2;go_wp2_with fail
    refine (V.out _ b2).mono ?_;rintro e w3 ⟨rfl,b3⟩;go_wp2_with fail
    go_ret2
    exact ⟨rfl,below_step (below_step b1 b2 (Nat.le_refl _)) b3 (Nat.le_refl _)⟩
   ·rw [if_pos ⟨rfl,hw⟩]
    have WR:=fun (A:Option Addr) (n c:Nat) w=>Writable_any e0 A n c w
    unfold enV at WR;generalize hwv:Ent.writS e0=wv at *;have e0':(wv == 0)=false:=beq_false_of_ne hw;replace WR:=Lib.hid WR;go_enter Tryz.func124,Tryz.ntmps124
    go_wp2_with fail
    refine (LC.out).mono ?_;rintro e w1 ⟨rfl,b1⟩;have h2:=h.below b1;obtain ⟨t0,t1⟩:=h2.two;obtain ⟨bb,o,A,n,c,hA,hbB,hr,hc⟩:=h2.entry hk;rw [HE.out] at hc hr;injection hA with hA
    subst hA;have c0:=hc 0 _ rfl;have c1:=hc 1 _ rfl;have c2:=hc 2 _ rfl;have c3:=hc 3 _ rfl;have c4:=hc 4 _ rfl;have c5:=hc 5 _ rfl;have c6:=hc 6 _ rfl;have c7:=hc 7 _ rfl;have c8:=hc 8 _ rfl;have c9:=hc 9 _ rfl;have c10:=hc 10 _ rfl;simp only [Nat.add_zero] at c0;have HC:=Lib.hid hcap;clear hr hc hcap h2 hw hwv;generalize D.l.length=m at *;go_wp2_with fail
    refine (WR.out _ _ _ _).mono ?_;rintro e w2 ⟨rfl,b2⟩;go_wp2_with fail
    go_ret2
    exact ⟨rfl,below_step b1 b2 (Nat.le_refl _)⟩
theorem dMay_any {F:Nat→Prop} {w:World} {g gv lc vc:Nat} {la:Addr} {vA:Option Addr} {xs vs:List Value} {D:Dc.Dic} (x y:Int) {A':Option Addr} {n' c' B:Nat} {b:List UInt8} (h:DRt 131 w F g gv (some la) lc vA vc xs vs D) (hb:RB w B A' n' c' b) (hB:B≤w.heap.size):Calls Tryz.prog 182 #[.pointer (some ⟨g,0,none⟩),.int .i64 x,.int .i64 y,.slice A' n' c'] w fun e w'=>e=.returned (.int .u32 (Dc.mayS D.l false x y b))∧Below w.heap.size w w':=by
 have M:=Lib.hid (dmay_any false x y h hb hB);rw [← mayP_snd];clear h hb;go_enter Tryz.func182,Tryz.ntmps182
 go_wp2_with fail
 refine (M.out).mono ?_;rintro e w1 ⟨rfl,b1⟩;go_wp2_with fail
 go_ret
 exact ⟨rfl,b1⟩
end Go.Proofs.YtijegngfclkdaaaGreatDoor
namespace Go.Proofs.YtijegngfclkdaaaGreatDoor
open Go.RowKit
def PokeP {t:TypeId} (D:Dc.Dic) (x y:Int) (b:List UInt8) (w:World) (F:Nat→Prop) (g gv:Nat) (lA:Option Addr) (lc:Nat) (vA:Option Addr) (vc:Nat) (xs:List Value) (e:Ending) (w':World):Prop :=
 e=.returned (.int .u32 (Dc.mayS D.l true x y b))∧Mv (fun q=>q=gv) w w'∧∃ vs',DRt t w' (fun q=>F q∨(w.heap.size≤q∧q < w'.heap.size)) g gv lA lc vA vc xs vs' (Dc.pokeS D x y b)
theorem poke_no {t:TypeId} {D:Dc.Dic} {x y:Int} {b:List UInt8} {w w':World} {F:Nat→Prop} {g gv lc vc:Nat} {lA vA:Option Addr} {xs vs:List Value} (h:DRt t w F g gv lA lc vA vc xs vs D) (hb:Below w.heap.size w w') {z:Int} (hz:z=Dc.mayS D.l true x y b) (hp:Dc.pokeS D x y b=D) :
  PokeP (t:=t) D x y b w F g gv lA lc vA vc xs (.returned (.int .u32 z)) w':=by
 subst hz;refine ⟨rfl,Mv.of_new hb _,vs,?_⟩;rw [hp];exact (h.below hb).mono fun _ _ hf=>.inl hf
theorem dput_any {F:Nat→Prop} {w:World} {g gv lc vc:Nat} {la:Addr} {vA:Option Addr} {xs vs:List Value} {D:Dc.Dic} (x y:Int) {A':Option Addr} {n' c' B:Nat} {b:List UInt8} (h:DRt 131 w F g gv (some la) lc vA vc xs vs D) (hb:RB w B A' n' c' b) (hB:B≤w.heap.size) (hn:n' < 140737488355328):Calls Tryz.prog 80 #[.pointer (some ⟨g,0,none⟩),.int .i64 x,.int .i64 y,.slice A' n' c',.bool true] w (PokeP (t:=131) D x y b w F g gv (some la) lc vA vc xs):=by
 have M:=dmay_any true x y h hb hB;have hz0:=mayP_snd D.l true x y b;cases hf:Dc.findS D.l x y with
 | none =>
  have hp:Dc.pokeS D x y b=D:=by unfold Dc.pokeS; rw [hf]
  have hv:(mayP D.l true x y b).2≠0:=by
   unfold mayP;rw [hf];dsimp only;split <;> decide
  generalize (mayP D.l true x y b).2=z at *;have ez:(z == 0)=false:=beq_false_of_ne hv;replace M:=Lib.hid M;have HP:=Lib.hid hp; have HZ:=Lib.hid hz0;clear hp hz0 hv hf;go_enter Tryz.func80,Tryz.ntmps80
  go_wp2_with fail
  refine (M.out).mono ?_;rintro e w1 ⟨rfl,b1⟩;go_wp2_with fail
  go_ret
  exact poke_no h b1 HZ.out HP.out
 | some k =>
  have hk:=(Dc.find_some hf).2.1;have hm:mayP D.l true x y b=((k:Int),Ent.valS (D.l.getD k Dc.en0) b):=by unfold mayP; rw [hf]; simp
  rw [hm] at M hz0;dsimp only at M hz0
  by_cases hv:Ent.valS (D.l.getD k Dc.en0) b=0
  ·have hp:Dc.pokeS D x y b=⟨D.l,D.v.set k b⟩:=by unfold Dc.pokeS; rw [hf]; dsimp only; rw [if_pos hv]
   rw [hv] at M hz0;replace M:=Lib.hid M;have HP:=Lib.hid hp; have HZ:=Lib.hid hz0;clear hp hz0 hv hf hm;obtain ⟨t0,t1⟩:=h.two;obtain ⟨A,n,c,hA,hF,hg,hr,hcell,hfr⟩:=h.value hk;subst hA;have hcap:D.l.length≤vc∧vc≤9223372036854775807:=⟨h.own.rv.le,h.own.rv.cap⟩;have HC:=Lib.hid hcap;have hgl:=h.blk.lt;have HM:Hid (∀ {w1:World} {n c:Nat} {A:Option Addr},Below w.heap.size w w1→OB w1 w.heap.size A n c b→DRt 131 (w1.setCell ⟨gv,k,none⟩ (.slice A n c)) (fun q=>F q∨(w.heap.size≤q∧q < w1.heap.size)) g gv (some la) lc (some ⟨gv,0,none⟩) vc xs (vs.set k (.slice A n c)) ⟨D.l,D.v.set k b⟩):=Lib.hid fun h1 h2=>h.put hk h1 h2
   clear hcap hr h;generalize hmm:D.l.length=m at *;have HMM:=Lib.hid hmm;clear hmm;go_enter Tryz.func80,Tryz.ntmps80
   go_wp2_with fail
   refine (M.out).mono ?_;rintro e w1 ⟨rfl,b1⟩;have OWN:=Lib.hid (down_any w1.drew (hb.below (b1.drew.mono hB)) hn (Nat.le_trans hB b1.drew.size));have t1':w1.cell? ⟨g,1,none⟩=_:=(b1.cell (p:=⟨g,1,none⟩) hgl).trans t1;have T1:=cell_regrown t1';have i0:(0:Int)≤(k:Int):=by omega
   have i1:(k:Int) < (m:Int):=by omega
   clear t0 t1 t1';go_wp2_with fail
   refine region_laterL 8 (by kernel_rfl) ?_;refine phase_laterL (by kernel_rfl) 3 (below_drew _) [0,4,5,1,2,3] rfl (by kernel_rfl) ?_;simp only [picks,nth]
   repeat (go_big_quiet_step (fail))
   refine wpQuiet_nil ?_;refine phase_opL 6 2 rfl (by kernel_rfl) (by decide) ?_;simp only [nth];go_wp2_with fail
   refine (OWN.out).mono ?_;rintro e w3 ⟨A3,c3,rfl,o3,b3⟩;have b3':Below w1.heap.size w1 w3:=(below_drew w1).trans b3;go_wp2_with fail
   refine behind_laterL b3' ?_;refine phase_laterL (by kernel_rfl) 1 (Below.refl _ _) [7] rfl (by kernel_rfl) ?_;simp only [picks,nth]
   repeat (go_big_quiet_step (fail))
   refine wpQuiet_nil ?_;have d3:=below_step b1 b3' (Nat.le_refl _);have e3:=(d3.cell (p:=⟨gv,k,none⟩) hg).trans hcell;have f3:=(d3.frozen (p:=⟨gv,k,none⟩) hg).trans hfr;refine phase_last 0 rfl (by kernel_rfl) (by decide) (by kernel_rfl) ?_;simp only [nth];go_wp2_with fail
   refine behind_last ?_;go_wp2_with fail
   go_ret
   have o3':OB w3 w.heap.size A3 n' c3 b:=o3.more b1.drew.size;have hput:=HM.out (w1:=w3) d3 o3';have M2:Mv (fun q=>q=gv) w (w3.setCell ⟨gv,k,none⟩ (.slice A3 n' c3)):=(Mv.of_new d3 _).trans (Mv.setCell w3 ⟨gv,k,none⟩ (.slice A3 n' c3)) fun b _ h=>h
   refine ⟨by rw [← HZ.out]; rfl,M2,vs.set k (.slice A3 n' c3),?_⟩;rw [HP.out];exact hput.mono fun q hq hf=>by
    rcases hf with hf | hf
    ·exact .inl hf
    ·exact .inr ⟨hf.1,by simpa [World.setCell] using hf.2⟩
  ·have hp:Dc.pokeS D x y b=D:=by unfold Dc.pokeS; rw [hf]; dsimp only; rw [if_neg hv]
   generalize Ent.valS (D.l.getD k Dc.en0) b=z at *;have ez:(z == 0)=false:=beq_false_of_ne hv;replace M:=Lib.hid M;have HP:=Lib.hid hp; have HZ:=Lib.hid hz0;clear hp hz0 hv hf hm;go_enter Tryz.func80,Tryz.ntmps80
   go_wp2_with fail
   refine (M.out).mono ?_;rintro e w1 ⟨rfl,b1⟩;go_wp2_with fail
   go_ret
   exact poke_no h b1 HZ.out HP.out
theorem dPoke_any {F:Nat→Prop} {w:World} {g gv lc vc:Nat} {la:Addr} {vA:Option Addr} {xs vs:List Value} {D:Dc.Dic} (x y:Int) {A':Option Addr} {n' c' B:Nat} {b:List UInt8} (h:DRt 131 w F g gv (some la) lc vA vc xs vs D) (hb:RB w B A' n' c' b) (hB:B≤w.heap.size) (hn:n' < 140737488355328):Calls Tryz.prog 49 #[.pointer (some ⟨g,0,none⟩),.int .i64 x,.int .i64 y,.slice A' n' c'] w (PokeP (t:=131) D x y b w F g gv (some la) lc vA vc xs):=by
 have M:=Lib.hid (dput_any x y h hb hB hn);clear h hb;go_enter Tryz.func49,Tryz.ntmps49
 go_wp2_with fail
 refine (M.out).mono ?_;rintro e w1 ⟨rfl,h1,vs',h2⟩;go_wp2_with fail
 go_ret
 exact ⟨rfl,h1,vs',h2⟩
end Go.Proofs.YtijegngfclkdaaaGreatDoor
namespace Go.Proofs.YtijegngfclkdaaaGreatDoor.Dc
def valuesK (D:Dic) (k:Nat):List Vl:=(List.range k).map fun k=>⟨(D.l.getD k en0).index,(D.l.getD k en0).sub,D.v.getD k []⟩
theorem valuesK_step (D:Dic) (k:Nat):valuesK D (k + 1)=valuesK D k ++ [⟨(D.l.getD k en0).index,(D.l.getD k en0).sub,D.v.getD k []⟩]:=by
 unfold valuesK;rw [List.range_succ,List.map_append];rfl
end Go.Proofs.YtijegngfclkdaaaGreatDoor.Dc
namespace Go.Proofs.YtijegngfclkdaaaGreatDoor
open Go.RowKit
def ValsP (D:Dc.Dic) (w:World) (e:Ending) (w':World):Prop:=∃ A c,e=.returned (.slice A D.l.length c)∧OS (VlW w' w.heap.size) w' w.heap.size 34 3 A D.l.length c (Dc.valuesS D)∧Below w.heap.size w w'
theorem Mp_getD {L:List (List UInt8)} (h:∀ v∈L,v.length≤1000000) (k:Nat):(L.getD k []).length≤1000000:=by
 rw [List.getD_eq_getElem?_getD];cases hi:L[k]? with
 | none=>simp
 | some x=>exact h _ (List.mem_of_getElem? hi)
theorem dVals_any {F:Nat→Prop} {w:World} {g gv lc vc:Nat} {la:Addr} {vA:Option Addr} {xs vs:List Value} {D:Dc.Dic} (h:DRt 131 w F g gv (some la) lc vA vc xs vs D) (hv:∀ v∈D.v,v.length≤1000000):Calls Tryz.prog 259 #[.pointer (some ⟨g,0,none⟩)] w (ValsP D w):=by
 obtain ⟨t0,t1⟩:=h.two;have T0:=cell_regrown t0;have T1:=cell_regrown t1;have HLC:=Lib.hid h.lcap;have hcap:D.l.length≤vc∧vc≤9223372036854775807:=⟨h.own.rv.le,h.own.rv.cap⟩;obtain ⟨hcap1,hcap2⟩:=hcap;obtain ⟨hlc1,hlc2⟩:=h.lcap;have hgl:=h.blk.lt;have h96:=h.few;have LN:=Lib.hid (dLen_any h);go_enter Tryz.func259,Tryz.ntmps259
 go_wp2_with fail
 refine (LN.out).mono ?_;rintro e w2 ⟨rfl,rfl⟩;go_wp2_with fail
 go_loopw [3,7] (fun v i wr=>∃ (k:Nat) (A1:Option Addr) (c1:Nat),k≤D.l.length∧i=.int .i64 k∧v=.slice A1 k c1∧OS (VlW wr w.heap.size) wr w.heap.size 34 3 A1 k c1 (Dc.valuesK D k)∧Below w.heap.size w wr) (fun _ i _=>D.l.length - (intOf i).toNat)
 case atStart=>exact ⟨0,_,_,by omega,rfl,rfl,OS.none_ _ _ _ _,Below.refl _ _⟩
 case round =>
  obtain ⟨k,A1,c1,hk,rfl,rfl,os,bb⟩:=hrel;have t0':=(bb.cell (p:=⟨g,0,none⟩) hgl).trans t0
  by_cases hlt:k < D.l.length
  ·obtain ⟨b,oo,A0,n0,c0,hA0,hbB,hr0,hc⟩:=h.entry hlt
   obtain ⟨A2,n2,c2,hA2,_,hg,hr2,hcell,_⟩:=h.value hlt;have hnx:=Dc.valuesK_step D k;have hln:=Mp_getD hv k;have hl2:=hr2.len;have q0:=cell_regrown (hc 0 _ rfl);have q1:=cell_regrown (hc 1 _ rfl);have q2:=cell_regrown hcell;simp only [Nat.add_zero] at q0
   try dsimp only at q0 q1
   injection hA0 with hA0
   subst hA0 hA2;generalize D.v.getD k []=dat at *;generalize (D.l.getD k Dc.en0).index=ixx at *;generalize (D.l.getD k Dc.en0).sub=sbx at *;subst hl2;have HN:=Lib.hid hnx;have OWN:=Lib.hid (fun (w2:World) (hb:Below w.heap.size w w2)=>down_any w2 (hr2.below hb) (by omega) hb.size);have i0:(0:Int)≤(k:Int):=by omega
   have i1:(k:Int) < (D.l.length:Int):=by omega
   have bd:=bb.trans ((below_drew wr).mono bb.size);clear hnx hc hr0 hr2 hcell;go_wp2_with fail
   refine region_since (w0:=w) (by kernel_rfl) ?_;refine phase_later (by kernel_rfl) 5 bd [0,1,5,9,13,17,21,2,10,18,3,11,19,4,12,20,6,14,22,7,15,23,8,16] rfl (by kernel_rfl) ?_;simp only [picks,nth]
   repeat (go_big_quiet_step (fail))
   refine wpQuiet_nil ?_;refine phase_op 24 4 rfl (by kernel_rfl) (by decide) ?_;simp only [nth];go_wp2_with fail
   refine (OWN.out _ bd).mono ?_;rintro e w3 ⟨A3,c3,rfl,o3,b3⟩
   skip
   have b3':Below wr.heap.size wr w3:=(below_drew wr).trans b3;have d3:=below_step bb b3' (Nat.le_refl _);have os3:=os.below b3' (R':=VlW w3 w.heap.size) fun _ _ h=>h.below b3'
   have ow3:=(o3.ow).more (base':=w.heap.size) bd.size;clear os o3;go_wp2_with fail
   refine behind_since d3 ?_;refine phase_later (by kernel_rfl) 3 d3 [25] rfl (by kernel_rfl) ?_;simp only [picks,nth]
   repeat (go_big_quiet_step (fail))
   refine wpQuiet_nil ?_;refine phase_op 26 2 rfl (by kernel_rfl) (by decide) ?_;simp only [nth];have b4:=alloc_one w3 (.cells #[.int .i64 ixx,.int .i64 sbx,.slice A3 dat.length c3] 34);have d4:=below_step d3 b4 (Nat.le_refl _);have os4:=os3.below b4 (R':=VlW _ w.heap.size) fun _ _ h=>h.below b4
   have hnew:=RV.new w3 34 (size:=3) (cs:=[.int .i64 ixx,.int .i64 sbx,.slice A3 dat.length c3]) rfl;have hf4:VlW (w3.alloc (.cells #[.int .i64 ixx,.int .i64 sbx,.slice A3 dat.length c3] 34)) w.heap.size ⟨ixx,sbx,dat⟩ [.int .i64 ixx,.int .i64 sbx,.slice A3 dat.length c3]:=⟨A3,dat.length,c3,rfl,ow3.below b4⟩;go_wp2_with fail
   refine behind_since d4 ?_;refine phase_op 27 1 rfl (by kernel_rfl) (by decide) ?_;simp only [nth];go_wp2_with (at_builtin; refine wpList_apps2 etvl (fun w1=>VlW w1 w.heap.size) rfl (.tmp 10) (.tmp 36) rfl rfl rfl w.heap.size os4 ⟨ixx,sbx,dat⟩ hnew hf4 (value_oneCell _ _ _ _ _) (by omega) (by omega) d4.size (fun w1 A1 n1 c1 xs h g f cs hf=>hf.beside h (by decide) g) ?_; intro A5 c5 w5 o5 b5 g5 _)
   have d5:=d4.trans b5;refine behind_since d5 ?_;refine phase_later (by kernel_rfl) 0 d5 [28] rfl (by kernel_rfl) ?_;simp only [picks,nth]
   repeat (go_big_quiet_step (fail))
   refine wpQuiet_nil ?_;refine phase_end (by kernel_rfl) ?_;clear os3 os4 hnew hf4;go_wp2_with fail
   go_roundw
   case rel=>exact ⟨k + 1,A5,c5,by omega,by go_num,rfl,by rw [HN.out]; exact o5,d5⟩
   case measure=>simp [intOf] <;> omega
  ·obtain rfl:k=D.l.length:=by omega
   go_wp2_with fail
   go_ret
   exact ⟨A1,c1,rfl,os,bb⟩
end Go.Proofs.YtijegngfclkdaaaGreatDoor
