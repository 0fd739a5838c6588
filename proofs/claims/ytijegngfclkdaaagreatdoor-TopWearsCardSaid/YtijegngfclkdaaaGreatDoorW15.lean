/-
  Pieces of the proof: part 15 of 54.
  Conditions: none.
-/
import Derived.Test.YtijegngfclkdaaaGreatDoorW13
import Derived.Test.YtijegngfclkdaaaGreatDoorW14
set_option linter.unusedVariables false
set_option linter.unusedSimpArgs false
set_option maxHeartbeats 100000000
set_option maxRecDepth 100000
namespace Go.Proofs.YtijegngfclkdaaaGreatDoor
open Go.RowKit
def blankB (l:List UInt8):Bool:=l.all (· == 255)
theorem recBlank_any {A:Option Addr} {n c B:Nat} {l:List UInt8} (w:World) (hb:RB w B A n c l):Calls Tryz.prog 283 #[.slice A n c] w fun e w'=>e=.returned (.bool (blankB l))∧w=w':=by
 have HL:=Lib.hid hb.len;have hn:=hb.lt;have HB:=Lib.hid hb;clear hb;go_enter Tryz.func283,Tryz.ntmps283
 go_wp2_with fail
 go_loopw [7] (fun i wr=>∃ k:Nat,k≤n∧i=.int .i64 (k:Int)∧wr=w∧Hid (blankB l=blankB (l.drop k))) (fun i _=>n - (intOf i).toNat)
 case atStart=>exact ⟨0,Nat.zero_le _,rfl,rfl,Lib.hid rfl⟩
 case round =>
  obtain ⟨k,hk,rfl,rfl,HE⟩:=hrel
  by_cases hlt:k < n
  ·obtain ⟨b,o,rfl,hbB,hc⟩:=HB.out.at_ (by omega)
   have hck:=hc k hlt;have hkl:k < l.length:=by rw [HL.out]; exact hlt
   have hst:blankB (l.drop k)=(l.getD k 0 == 255 && blankB (l.drop (k + 1))):=by
    have:l.getD k 0=l[k]:=by simp [List.getD,List.getElem?_eq_getElem hkl]
    rw [this,List.drop_eq_getElem_cons hkl];rfl
   generalize l.getD k 0=x at *;have i0:(0:Int)≤(k:Int):=by omega
   have i1:(k:Int) < (n:Int):=by omega
   have hbx:=byte_beq x 255
   by_cases hx:x=255
   ·subst hx
    have HE2:Hid (blankB l=blankB (l.drop (k + 1))):=Lib.hid (by rw [HE.out,hst]; simp);clear hc hst HE hkl hbx;go_wp2_with fail
    go_roundw
    case rel=>exact ⟨k + 1,by omega,by go_num,trivial,HE2⟩
    case measure=>simp [intOf] <;> omega
   ·have hx2:((x.toNat:Int) != 255)=true:=by
     have:(x == 255)=false:=by simpa using hx
     rw [this] at hbx;exact (by rw [bne,show ((255:Int))=((255:UInt8).toNat:Int) from rfl,hbx]; rfl)
    have HE2:Hid (blankB l=false):=Lib.hid (by rw [HE.out,hst]; simp [hx]);clear hc hst HE hkl hbx hx;go_wp2_with fail
    go_ret
    exact ⟨by rw [HE2.out]; rfl,rfl⟩
  ·obtain rfl:k=n:=by omega
   have HE2:Hid (blankB l=true):=Lib.hid (by rw [HE.out,← HL.out,List.drop_length]; rfl);clear HE;go_wp2_with fail
   go_ret
   exact ⟨by rw [HE2.out]; rfl,rfl⟩
end Go.Proofs.YtijegngfclkdaaaGreatDoor
namespace Go.Proofs.YtijegngfclkdaaaGreatDoor.Jr
open Go.RowKit Go.Proofs.YtijegngfclkdaaaGreatDoor
structure Rec where
 kind:Nat
 num:Nat
 data:List UInt8
def headS (k m n:Nat):List UInt8:=87 :: (Oct.lb 1 k ++ (Oct.lb 4 m ++ Oct.lb 2 n))
theorem headS_length (k m n:Nat):(headS k m n).length=8:=by simp [headS,Oct.lb_length]
def buildS (r:Rec):List UInt8:=sealS (headS r.kind r.num r.data.length ++ r.data) ++ [0]
theorem buildS_length (r:Rec):(buildS r).length=r.data.length + 13:=by simp [buildS,sealS_length,headS_length]; omega
def fitsS (k m n:Nat):Bool:=if k=2 then decide (0 < m∧n=0) else if k=1 then decide (0 < m∧n≤960) else false
def rightS (r:Rec):Int:=if r.num=0 then 1 else if r.kind=2∧r.data.length=0 then 0 else if r.kind≠1 then 1 else if 960 < r.data.length then 3 else 0
def parseS (b:List UInt8) (p:Nat):Option (Rec×Nat) :=
 if (b.drop p).length < 13 then none
 else if (b.drop p).getD 0 0≠87 then none
 else if fitsS (Oct.le (Oct.cut (b.drop p) 1 1)) (Oct.le (Oct.cut (b.drop p) 2 4)) (Oct.le (Oct.cut (b.drop p) 6 2))=false then none
 else if (b.drop p).length < Oct.le (Oct.cut (b.drop p) 6 2) + 13 then none
 else if (openS ((b.drop p).take (12 + Oct.le (Oct.cut (b.drop p) 6 2)))).2≠0 then none
 else if (b.drop p).getD (12 + Oct.le (Oct.cut (b.drop p) 6 2)) 0≠0 then none
 else some (⟨Oct.le (Oct.cut (b.drop p) 1 1),Oct.le (Oct.cut (b.drop p) 2 4),Oct.cut (b.drop p) 8 (Oct.le (Oct.cut (b.drop p) 6 2))⟩,p + Oct.le (Oct.cut (b.drop p) 6 2) + 13)
theorem parse_lt {b:List UInt8} {p:Nat} {r:Rec} {q:Nat} (h:parseS b p=some (r,q)):p + 13≤q∧q≤b.length∧r.data.length + 13=q - p∧0 < r.num∧r.num < 4294967296∧(r.kind=1∨r.kind=2)∧r.data.length≤960:=by
 unfold parseS at h;generalize hx:b.drop p=x at h;have hl:x.length=b.length - p:=by rw [← hx]; simp
 generalize hn:Oct.le (Oct.cut x 6 2)=n at h;split at h; · cases h
 rename_i h1;split at h; · cases h
 split at h; · cases h
 rename_i h3;split at h; · cases h
 rename_i h4;split at h; · cases h
 split at h; · cases h
 injection h with h; injection h with ha hb
 subst ha hb;have hc:=Oct.cut_length x 8 n (by omega);have hm:=Oct.le_lt (Oct.cut x 2 4);rw [Oct.cut_length x 2 4 (by omega)] at hm;have hf:fitsS (Oct.le (Oct.cut x 1 1)) (Oct.le (Oct.cut x 2 4)) n=true:=by simpa using h3
 unfold fitsS at hf;dsimp only;rw [hc];split at hf
 ·rename_i hk; have:=of_decide_eq_true hf; exact ⟨by omega,by omega,by omega,this.1,by omega,.inr hk,by omega⟩
 ·split at hf
  ·rename_i hk; have:=of_decide_eq_true hf; exact ⟨by omega,by omega,by omega,this.1,by omega,.inl hk,by omega⟩
  ·cases hf
structure Look where
 last:Rec
 count:Nat
 fin:Nat
 clean:Bool
def noRec:Rec:=⟨0,0,[]⟩
def goS (b:List UInt8):Nat→Rec→Nat→Nat→Rec×Nat×Nat
 | 0,r,c,e=>(r,c,e)
 | k + 1,r,c,e=>match parseS b e with
  | none=>(r,c,e)
  | some (r',e')=>if 0 < c∧(r.num=4294967295∨r'.num≠r.num + 1) then (r,c,e) else goS b k r' (c + 1) e'
def ofS (b:List UInt8):Look:=⟨(goS b b.length noRec 0 0).1,(goS b b.length noRec 0 0).2.1,(goS b b.length noRec 0 0).2.2,blankB (b.drop (goS b b.length noRec 0 0).2.2)⟩
def roomJ (l:Look) (d:Nat):Bool:=l.clean && decide (d≤960∧l.fin + 13 + d≤1024)
def newS:List Look→Nat→Nat×Bool→(Nat→Nat)→Nat×Bool
 | [],_,x,_=>x
 | l :: r,i,x,num=>if 0 < l.count∧(x.2=false∨num x.1 < l.last.num) then newS r (i + 1) (i,true) num else newS r (i + 1) x num
end Go.Proofs.YtijegngfclkdaaaGreatDoor.Jr
namespace Go.Proofs.YtijegngfclkdaaaGreatDoor
open Go.RowKit
theorem own_own_ne {w:World} {base base' e e' size size' n n':Nat} {v v':Value} {xs xs':List Value} (h:w.ownsRow base e size v n xs) (h':w.ownsRow base' e' size' v' n' xs') (hne:e≠e'):v'.ownBlock=none∨v'.ownBlock≠v.ownBlock:=by
 rcases h'.2 with ⟨rfl,_⟩ | ⟨g',cap',cur',rfl,_,hh',_⟩
 ·exact .inl rfl
 ·right
  intro he;rcases h.2 with ⟨rfl,_⟩ | ⟨g,cap,cur,rfl,_,hh,_⟩
  ·cases he
  ·have:g'=g:=by simpa [Value.ownBlock] using he
   subst this;rw [hh] at hh';injection hh' with hh'
   injection hh' with _ ht
   exact hne ht
section
variable {α:Type} {R R':α→List Value→Prop} {w w':World} {B B' size n c:Nat} {A:Option Addr} {fs:List α}
def RS (R:α→List Value→Prop) (w:World) (B size:Nat) (A:Option Addr) (n c:Nat) (fs:List α):Prop:=∃ xs,RV w B size A n c xs∧Rows R size fs xs
def OS (R:α→List Value→Prop) (w:World) (base e size:Nat) (A:Option Addr) (n c:Nat) (fs:List α):Prop:=∃ xs,OV w base e size A n c xs∧Rows R size fs xs
theorem RS.len (h:RS R w B size A n c fs) (hs:0 < size):fs.length=n:=by
 obtain ⟨xs,h1,h2⟩:=h;have e:=h1.len;rw [h2.len] at e;exact Nat.eq_of_mul_eq_mul_right hs e
theorem RS.lt (h:RS R w B size A n c fs):n≤9223372036854775807:=by
 obtain ⟨xs,h1,h2⟩:=h;exact Nat.le_trans h1.le h1.cap
theorem RS.keep (h:RS R w B size A n c fs) (hk:∀ p:Addr,p.block < B→w'.cell? p=w.cell? p) (hi:∀ f cs,R f cs→R' f cs):RS R' w' B size A n c fs:=by
 obtain ⟨xs,h1,h2⟩:=h;exact ⟨xs,h1.keep hk,h2.imp hi⟩
theorem RS.below (h:RS R w B size A n c fs) (hb:Below B w w') (hi:∀ f cs,R f cs→R' f cs):RS R' w' B size A n c fs:=h.keep (fun _ hp=>hb.cell hp) hi
theorem RS.at_ (h:RS R w B size A n c fs) (hs:0 < size) {i:Nat} {f:α} (hf:fs[i]?=some f):∃ b o cs,A=some ⟨b,o,none⟩∧b < B∧R f cs∧∀ j u,j < size→cs[j]?=some u→w.cell? ⟨b,o + i * size + j,none⟩=some u:=by
 have hl:=h.len hs;have hi:i < n:=by rw [← hl]; exact (List.getElem?_eq_some_iff.1 hf).1
 obtain ⟨xs,h1,h2⟩:=h;obtain ⟨b,o,rfl,hb,hc⟩:=h1.at_ (by omega);refine ⟨b,o,_,rfl,hb,h2.2 i f hf,fun j u hj hu=>?_⟩;rw [List.getElem?_take,if_pos hj,List.getElem?_drop] at hu;rw [Nat.add_assoc];exact hc _ u hu
theorem RS.none_:RS R w B size none 0 0 []:=⟨[],RV.none_,Rows.nil⟩
theorem OS.none_ (w:World) (base e size:Nat):OS R w base e size none 0 0 []:=⟨[],OV.none_ _ _ _ _,Rows.nil⟩
theorem OS.rs {base e:Nat} (h:OS R w base e size A n c fs):RS R w w.heap.size size A n c fs:=by
 obtain ⟨xs,h1,h2⟩:=h;exact ⟨xs,h1.rv,h2⟩
theorem OS.below {base e:Nat} (h:OS R w base e size A n c fs) (hb:Below w.heap.size w w') (hi:∀ f cs,R f cs→R' f cs):OS R' w' base e size A n c fs:=by
 obtain ⟨xs,h1,h2⟩:=h;exact ⟨xs,h1.below hb,h2.imp hi⟩
theorem OS.more {base base' e:Nat} (h:OS R w base e size A n c fs) (hb:base'≤base) (hi:∀ f cs,R f cs→R' f cs):OS R' w base' e size A n c fs:=by
 obtain ⟨xs,h1,h2⟩:=h;exact ⟨xs,h1.more hb,h2.imp hi⟩
theorem OS.len {base e:Nat} (h:OS R w base e size A n c fs) (hs:0 < size):fs.length=n:=h.rs.len hs
end
section
variable {α:Type} {P:Program} {T E size bytes:Nat} {z:Value}
theorem wpList_apps2 (ht:ET P T E size bytes z) (R:World→α→List Value→Prop) {w:World} {ops:Array Oper} {rest:List Oper} {o:Oper} {a:Act} {Q:Exit→Act→World→Prop} (hgd:o.guard=none) (s x:Operand)
  (ho:o.op=.call { callee:=.builtin .append,args:=#[s,x],argTypes:=#[T,T] })
  {A:Option Addr} {n c:Nat} (hs:a.eval s=.slice A n c) {A':Option Addr} {c':Nat} (hx:a.eval x=.slice A' 1 c')
  (base:Nat) {l:List α} (hown:OS (R w) w base E size A n c l) (f:α) {cs:List Value} {B:Nat} (hr:RV w B size A' 1 c' cs) (hf:R w f cs) (h1:∀ u∈cs,u.oneCell'=true)
  (hbytes:(n + 1) * bytes≤140737488355328) (h63:n + 1≤9223372036854775807) (hbase:base≤w.heap.size)
  (hR:∀ w1 A1 n1 c1 xs,OV w base E size A1 n1 c1 xs→w.grownBy w1 (Value.slice A1 n1 c1).ownBlock→∀ f cs,R w f cs→R w1 f cs)
  (h:∀ A1 c1 w1,OS (R w1) w1 base E size A1 (n + 1) c1 (l ++ [f])→Below base w w1→w.grownBy w1 (Value.slice A n c).ownBlock →
   ((Value.slice A1 (n + 1) c1).ownBlock=(Value.slice A n c).ownBlock∨(Value.slice A1 (n + 1) c1).ownBlock=some w.heap.size)→wpList P ops Q rest (a.put o.dst (.slice A1 (n + 1) c1)) w1) :
  wpList P ops Q (o :: rest) a w:=by
 obtain ⟨xs,k1,k2⟩:=hown;refine wpList_app ht hgd s x ho hs hx base k1 hr h1 hbytes h63 hbase fun A1 c1 w1 j1 j2 j3=>?_
 have hi:=hR w1 A n c xs k1 j2;exact h A1 c1 w1 ⟨_,j1,Rows.append (k2.imp hi) (Rows.one (hi _ _ hf) (by have:=hr.len; omega))⟩ (grown_below j2 k1.lt hbase) j2 j3
theorem RV.new (w:World) (e:TypeId) {cs:List Value} (hl:cs.length=size):RV (w.alloc (.cells cs.toArray e)) (w.heap.size + 1) size (some ⟨w.heap.size,0,none⟩) 1 1 cs:=by
 refine (OV.new (base:=0) (e:=e) (size:=size) w cs 1 (by omega) (by omega) (Nat.zero_le _)).rv.more (by simp)
end
end Go.Proofs.YtijegngfclkdaaaGreatDoor
namespace Go.Proofs.YtijegngfclkdaaaGreatDoor.Jr
def lk0:Look:=⟨noRec,0,0,false⟩
def newN (l:List Look):Nat×Bool:=newS l 0 (0,false) fun i=>(l.getD i lk0).last.num
theorem new_step {l:List Look} {k:Nat} (h:k < l.length) (x:Nat×Bool) (num:Nat→Nat):newS (l.drop k) k x num=newS (l.drop (k + 1)) (k + 1) (if 0 < (l.getD k lk0).count∧(x.2=false∨num x.1 < (l.getD k lk0).last.num) then (k,true) else x) num:=by
 have:l.getD k lk0=l[k]:=by simp [List.getD,List.getElem?_eq_getElem h]
 rw [this,List.drop_eq_getElem_cons h,newS];split <;> rfl
theorem new_end {l:List Look} {k:Nat} (h:l.length≤k) (x:Nat×Bool) (num:Nat→Nat):newS (l.drop k) k x num=x:=by
 rw [List.drop_of_length_le h];rfl
end Go.Proofs.YtijegngfclkdaaaGreatDoor.Jr
namespace Go.Proofs.YtijegngfclkdaaaGreatDoor
open Go.RowKit
def LkQ (f:Jr.Look) (cs:List Value):Prop:=∃ A n c,cs=[.int .i64 (f.last.kind:Int),.int .u32 (f.last.num:Int),.slice A n c,.int .i64 (f.count:Int),.int .i64 (f.fin:Int),.bool f.clean]
section
variable {w w':World} {g:Nat} {t:TypeId} {a b c d e f:Value}
theorem Blk.six (h:Blk w g t #[a,b,c,d,e,f]):(w.cell? ⟨g,0,none⟩=some a∧w.cell? ⟨g,1,none⟩=some b∧w.cell? ⟨g,2,none⟩=some c∧w.cell? ⟨g,3,none⟩=some d∧w.cell? ⟨g,4,none⟩=some e∧w.cell? ⟨g,5,none⟩=some f) ∧
  (w.frozen? ⟨g,0,none⟩=false∧w.frozen? ⟨g,1,none⟩=false∧w.frozen? ⟨g,2,none⟩=false∧w.frozen? ⟨g,3,none⟩=false∧w.frozen? ⟨g,4,none⟩=false∧w.frozen? ⟨g,5,none⟩=false) :=
 ⟨⟨h.cell 0,h.cell 1,h.cell 2,h.cell 3,h.cell 4,h.cell 5⟩,h.frozen 0,h.frozen 1,h.frozen 2,h.frozen 3,h.frozen 4,h.frozen 5⟩
end
theorem RS.look {w:World} {B n c:Nat} {A:Option Addr} {fs:List Jr.Look} (h:RS LkQ w B 6 A n c fs) {i:Nat} (hi:i < n):∃ b o A1 n1 c1,A=some ⟨b,o,none⟩∧b < B∧w.cell? ⟨b,o + i * 6,none⟩=some (.int .i64 ((fs.getD i Jr.lk0).last.kind:Int))∧w.cell? ⟨b,o + i * 6 + 1,none⟩=some (.int .u32 ((fs.getD i Jr.lk0).last.num:Int))∧w.cell? ⟨b,o + i * 6 + 2,none⟩=some (.slice A1 n1 c1) ∧
  w.cell? ⟨b,o + i * 6 + 3,none⟩=some (.int .i64 ((fs.getD i Jr.lk0).count:Int))∧w.cell? ⟨b,o + i * 6 + 4,none⟩=some (.int .i64 ((fs.getD i Jr.lk0).fin:Int))∧w.cell? ⟨b,o + i * 6 + 5,none⟩=some (.bool (fs.getD i Jr.lk0).clean):=by
 have hl:=h.len (by decide);have hf:fs[i]?=some (fs.getD i Jr.lk0):=by simp [List.getD,List.getElem?_eq_getElem (show i < fs.length by omega)]
 obtain ⟨b,o,cs,rfl,hb,⟨A1,n1,c1,rfl⟩,hc⟩:=h.at_ (by decide) hf;exact ⟨b,o,A1,n1,c1,rfl,hb,hc 0 _ (by decide) rfl,hc 1 _ (by decide) rfl,hc 2 _ (by decide) rfl,hc 3 _ (by decide) rfl,hc 4 _ (by decide) rfl,hc 5 _ (by decide) rfl⟩
theorem secNewest_any {A:Option Addr} {n c B:Nat} {fs:List Jr.Look} (w:World) (h:RS LkQ w B 6 A n c fs) (hB:B≤w.heap.size) :
  Calls Tryz.prog 187 #[.slice A n c] w fun e w'=>e=.returned (.tuple #[.int .i64 ((Jr.newN fs).1:Int),.bool (Jr.newN fs).2])∧Below w.heap.size w w':=by
 have hl:=h.len (by decide);have hn:=h.lt;go_enter Tryz.func187,Tryz.ntmps187
 go_wp2_with fail
 go_loopw [4,5,10] (fun a u i wr=>∃ (k p:Nat) (x:Bool),k≤n∧p≤k∧(x=true→p < n)∧i=.int .i64 k∧a=.int .i64 (p:Int)∧u=.bool x∧Hid (Jr.newN fs=Jr.newS (fs.drop k) k (p,x) fun i=>(fs.getD i Jr.lk0).last.num)∧Below w.heap.size w wr) (fun _ _ i _=>n - (intOf i).toNat)
 case atStart=>exact ⟨0,0,false,by omega,by omega,(fun h=>by cases h),rfl,rfl,rfl,Lib.hid rfl,Below.refl _ _⟩
 case round =>
  obtain ⟨k,p,x,hk,hpk,hpx,rfl,rfl,rfl,HE,hbel⟩:=hrel
  by_cases hlt:k < n
  ·have hw:=h.below (R':=LkQ) (hbel.mono hB) fun _ _ h=>h
   obtain ⟨b,o,A1,n1,c1,rfl,hbB,q0,q1,q2,q3,q4,q5⟩:=hw.look hlt;have hst:=Jr.new_step (l:=fs) (k:=k) (by omega) (p,x) fun i=>(fs.getD i Jr.lk0).last.num
   rw [hst] at HE;have K:=(Blk.new wr 265 #[.int .i64 ((fs.getD k Jr.lk0).last.kind:Int),.int .u32 ((fs.getD k Jr.lk0).last.num:Int),.slice A1 n1 c1,.int .i64 ((fs.getD k Jr.lk0).count:Int),.int .i64 ((fs.getD k Jr.lk0).fin:Int),.bool (fs.getD k Jr.lk0).clean]).six;have b1:=alloc_one wr (.cells #[.int .i64 ((fs.getD k Jr.lk0).last.kind:Int),.int .u32 ((fs.getD k Jr.lk0).last.num:Int),.slice A1 n1 c1,.int .i64 ((fs.getD k Jr.lk0).count:Int),.int .i64 ((fs.getD k Jr.lk0).fin:Int),.bool (fs.getD k Jr.lk0).clean] 265);have bb:=below_step hbel b1 (Nat.le_refl _);have QP:x=true→wr.cell? ⟨b,o + p * 6 + 1,none⟩=some (.int .u32 ((fs.getD p Jr.lk0).last.num:Int)):=fun hx=>by
    obtain ⟨b',o',_,_,_,e1,hb',_,z1,_⟩:=hw.look (hpx hx);injection e1 with e1
    injection e1 with e1 e2
    subst e1 e2;exact z1
   dsimp only at HE;generalize (fs.getD k Jr.lk0).last.kind=z1 at *;generalize (fs.getD k Jr.lk0).last.num=z2 at *;generalize (fs.getD k Jr.lk0).count=z3 at *;generalize (fs.getD k Jr.lk0).fin=z4 at *;generalize (fs.getD k Jr.lk0).clean=z5 at *;generalize (fs.getD p Jr.lk0).last.num=v at *;have i0:(0:Int)≤(p:Int):=by omega
   have hbw:b < wr.heap.size:=by have:=hbel.size; omega
   clear hst h hw hl
   by_cases hc:0 < z3
   ·have e1:decide ((z3:Int) > 0)=true:=decide_eq_true (by omega)
    have e1':decide (0 < z3)=true:=decide_eq_true hc;cases x with
    | false =>
     rw [if_pos ⟨hc,.inl rfl⟩] at HE;clear QP hc hpx;go_wp2_with fail
     go_quiet (fail)
     go_wp2_with fail
     go_roundw
     case rel=>exact ⟨k + 1,k,true,by omega,by omega,fun _=>hlt,by go_num,rfl,rfl,HE,below_drewN bb _⟩
     case measure=>simp [intOf] <;> omega
    | true =>
     have qp:=QP rfl;have qp2:=(b1.cell (p:=⟨b,o + p * 6 + 1,none⟩) hbw).trans qp;have i1:(p:Int) < (n:Int):=by have:=hpx rfl; omega
     clear QP
     by_cases hv:v < z2
     ·have e2:decide ((z2:Int) > (v:Int))=true:=decide_eq_true (by omega)
      have e2':decide (v < z2)=true:=decide_eq_true hv;rw [if_pos ⟨hc,.inr hv⟩] at HE;clear hc hv hpx;go_wp2_with fail
      go_quiet (fail)
      go_wp2_with fail
      go_roundw
      case rel=>exact ⟨k + 1,k,true,by omega,by omega,fun _=>hlt,by go_num,rfl,rfl,HE,below_drewN bb _⟩
      case measure=>simp [intOf] <;> omega
     ·have e2:decide ((z2:Int) > (v:Int))=false:=decide_eq_false (by omega)
      have e2':decide (v < z2)=false:=decide_eq_false hv;rw [if_neg (fun hh=>by rcases hh.2 with h | h; cases h; exact hv h)] at HE;clear hc hv;go_wp2_with fail
      go_quiet (fail)
      go_wp2_with fail
      go_roundw
      case rel=>exact ⟨k + 1,p,true,by omega,by omega,fun _=>by have:=hpx trivial; omega,by go_num,rfl,rfl,HE,below_drewN bb _⟩
      case measure=>simp [intOf] <;> omega
   ·have e1:decide ((z3:Int) > 0)=false:=decide_eq_false (by omega)
    have e1':decide (0 < z3)=false:=decide_eq_false hc;rw [if_neg (fun hh=>hc hh.1)] at HE;clear hc QP;go_wp2_with fail
    go_quiet (fail)
    go_wp2_with fail
    go_roundw
    case rel=>exact ⟨k + 1,p,x,by omega,by omega,hpx,by go_num,rfl,rfl,HE,below_drewN bb _⟩
    case measure=>simp [intOf] <;> omega
  ·obtain rfl:k=n:=by omega
   have HE2:Hid (Jr.newN fs=(p,x)):=Lib.hid (by rw [HE.out,Jr.new_end (by omega)]);clear HE h hl;go_wp2_with fail
   go_ret2
   exact ⟨by rw [HE2.out]; rfl,hbel⟩
end Go.Proofs.YtijegngfclkdaaaGreatDoor
namespace Go.Proofs.YtijegngfclkdaaaGreatDoor.Jr
def nxGo (nw:Nat×Bool) (W:List Int):List Look→Nat→Nat×Bool→Nat×Bool
 | [],_,x=>x
 | _ :: r,i,x=>if nw.2=true∧i=nw.1 then nxGo nw W r (i + 1) x else if x.2=false∨W.getD i 0 < W.getD x.1 0 then nxGo nw W r (i + 1) (i,true) else nxGo nw W r (i + 1) x
def nxN (l:List Look) (W:List Int):Nat×Bool:=nxGo (newN l) W l 0 (0,false)
theorem nx_step {l:List Look} {k:Nat} (h:k < l.length) (nw x:Nat×Bool) (W:List Int):nxGo nw W (l.drop k) k x=nxGo nw W (l.drop (k + 1)) (k + 1) (if nw.2=true∧k=nw.1 then x else if x.2=false∨W.getD k 0 < W.getD x.1 0 then (k,true) else x):=by
 rw [List.drop_eq_getElem_cons h,nxGo];split
 ·rfl
 ·split <;> rfl
theorem nx_end {l:List Look} {k:Nat} (h:l.length≤k) (nw x:Nat×Bool) (W:List Int):nxGo nw W (l.drop k) k x=x:=by
 rw [List.drop_of_length_le h];rfl
end Go.Proofs.YtijegngfclkdaaaGreatDoor.Jr
namespace Go.Proofs.YtijegngfclkdaaaGreatDoor
open Go.RowKit
def iv (z:Int):Value:=.int .i64 z
def lkV (f:Jr.Look) (A:Option Addr) (n c:Nat):Value:=.agg #[.int .i64 (f.last.kind:Int),.int .u32 (f.last.num:Int),.slice A n c,.int .i64 (f.count:Int),.int .i64 (f.fin:Int),.bool f.clean]
theorem secRoom_any (f:Jr.Look) (A:Option Addr) (n c d:Nat) (w:World) (hf:f.fin≤100000) (hd:d≤100000) :
  Calls Tryz.prog 402 #[lkV f A n c,.int .i64 (d:Int)] w fun e w'=>e=.returned (.bool (Jr.roomJ f d))∧Below w.heap.size w w':=by
 unfold lkV Jr.roomJ;generalize f.last.kind=z1 at *;generalize f.last.num=z2 at *;generalize f.count=z3 at *;generalize f.fin=z4 at *;generalize f.clean=z5 at *;have K:=(Blk.new w 265 #[.int .i64 (z1:Int),.int .u32 (z2:Int),.slice A n c,.int .i64 (z3:Int),.int .i64 (z4:Int),.bool z5]).six;have b1:=alloc_one w (.cells #[.int .i64 (z1:Int),.int .u32 (z2:Int),.slice A n c,.int .i64 (z3:Int),.int .i64 (z4:Int),.bool z5] 265);have e1:decide ((d:Int) < 0)=false:=decide_eq_false (by omega);have e2:decide ((z4:Int) < 0)=false:=decide_eq_false (by omega);have q1:IntKind.i64.wrap (1011 - (d:Int))=1011 - (d:Int):=IntWalk.i64_in _ (by omega);have q2:wrap64 (1011 - (d:Int))=1011 - (d:Int):=IntWalk.wrap64_in _ (by omega);cases z5 with
 | false =>
  clear hf hd;go_enter Tryz.func402,Tryz.ntmps402
  go_wp2_with fail
  go_ret
  exact ⟨rfl,b1⟩
 | true =>
  by_cases h9:960 < d
  ·have e3:decide ((d:Int) > 960)=true:=decide_eq_true (by omega)
   have e3':decide (960 < d)=true:=decide_eq_true h9;have e5:decide (d≤960∧z4 + 13 + d≤1024)=false:=decide_eq_false (by omega);rw [e5];clear hf hd h9;go_enter Tryz.func402,Tryz.ntmps402
   go_wp2_with fail
   go_ret
   exact ⟨rfl,b1⟩
  ·have e3:decide ((d:Int) > 960)=false:=decide_eq_false (by omega)
   have e3':decide (960 < d)=false:=decide_eq_false h9;have e4:decide ((z4:Int)≤1011 - (d:Int))=decide (d≤960∧z4 + 13 + d≤1024):=by
    rw [Bool.eq_iff_iff]; simp only [decide_eq_true_eq]; omega
   rw [← e4];clear hf hd h9 e4;go_enter Tryz.func402,Tryz.ntmps402
   go_wp2_with fail
   go_ret
   exact ⟨by simp,b1⟩
theorem secPick_any {A:Option Addr} {n c B:Nat} {ws:List Int} (i:Nat) (w:World) (h:RV w B 1 A n c (ws.map iv)):Calls Tryz.prog 411 #[.slice A n c,.int .i64 (i:Int)] w fun e w'=>e=.returned (.int .i64 (ws.getD i 0))∧w=w':=by
 have hl:=h.len;simp only [List.length_map,Nat.mul_one] at hl
 by_cases hi:i < n
 ·obtain ⟨b,o,rfl,_,hc⟩:=h.at_ (by omega)
  have q:w.cell? ⟨b,o + i,none⟩=some (.int .i64 (ws.getD i 0)):=hc i _ (by simp [List.getD,List.getElem?_eq_getElem (show i < ws.length by omega),iv]);have e1:decide ((i:Int) ≥ (n:Int))=false:=decide_eq_false (by omega);have e1':decide (n≤i)=false:=decide_eq_false (by omega);have i0:(0:Int)≤(i:Int):=by omega
  have i1:(i:Int) < (n:Int):=by omega
  generalize ws.getD i 0=z at *;clear h hl hc;go_enter Tryz.func411,Tryz.ntmps411
  go_wp2_with fail
  go_ret
  exact ⟨rfl,rfl⟩
 ·have e1:decide ((i:Int) ≥ (n:Int))=true:=decide_eq_true (by omega)
  have e1':decide (n≤i)=true:=decide_eq_true (by omega);have:ws.getD i 0=0:=by simp [List.getD,List.getElem?_eq_none (show ws.length≤i by omega)]
  rw [this];clear h hl this;go_enter Tryz.func411,Tryz.ntmps411
  go_wp2_with fail
  go_ret
  exact ⟨rfl,rfl⟩
theorem secNext_any {A A1 A2:Option Addr} {n c B c1 c2:Nat} {fs:List Jr.Look} {W L:List Int} (w:World) (h:RS LkQ w B 6 A n c fs) (hB:B≤w.heap.size) (hW:RV w B 1 A1 n c1 (W.map iv)) (hL:RV w B 1 A2 n c2 (L.map iv)) (hpos:∀ i,i < n→0 < L.getD i 0) :
  Calls Tryz.prog 404 #[.slice A n c,.slice A1 n c1,.slice A2 n c2] w fun e w'=>e=.returned (.tuple #[.int .i64 ((Jr.nxN fs W).1:Int),.bool (Jr.nxN fs W).2])∧Below w.heap.size w w':=by
 have hl:=h.len (by decide);have hn:=h.lt;have NW:=Lib.hid (fun (w1:World) (hw:RS LkQ w1 B 6 A n c fs) (hb:B≤w1.heap.size)=>secNewest_any w1 hw hb);have hR:Jr.nxN fs W=Jr.nxGo (Jr.newN fs) W fs 0 (0,false):=rfl;generalize Jr.newN fs=nw at *;obtain ⟨np,nh⟩:=nw;dsimp only at NW;generalize Jr.nxN fs W=res at *;have HR:=Lib.hid hR;clear hR;go_enter Tryz.func404,Tryz.ntmps404
 go_wp2_with fail
 refine (NW.out _ h hB).mono ?_;rintro e w1 ⟨rfl,b1⟩;go_wp2_with fail
 go_loopw [10,11,22] (fun a u i wr=>∃ (k p:Nat) (x:Bool),k≤n∧p≤k∧i=.int .i64 k∧a=.int .i64 (p:Int)∧u=.bool x∧Hid (res=Jr.nxGo (np,nh) W (fs.drop k) k (p,x))∧Below w.heap.size w wr) (fun _ _ i _=>n - (intOf i).toNat)
 case atStart=>exact ⟨0,0,false,by omega,by omega,rfl,rfl,rfl,Lib.hid HR.out,b1⟩
 case round =>
  obtain ⟨k,p,x,hk,hpk,rfl,rfl,rfl,HE,hbel⟩:=hrel
  by_cases hlt:k < n
  ·have hw:=h.below (R':=LkQ) (hbel.mono hB) fun _ _ h=>h
   obtain ⟨b,o,D1,n1,d1,rfl,hbB,q0,q1,q2,q3,q4,q5⟩:=hw.look hlt;have hst:=Jr.nx_step (l:=fs) (k:=k) (by omega) (np,nh) (p,x) W;rw [hst] at HE;dsimp only at HE;generalize (fs.getD k Jr.lk0).last.kind=z1 at *;generalize (fs.getD k Jr.lk0).last.num=z2 at *;generalize (fs.getD k Jr.lk0).count=z3 at *;generalize (fs.getD k Jr.lk0).fin=z4 at *;generalize (fs.getD k Jr.lk0).clean=z5 at *;have K:=(Blk.new wr 265 #[.int .i64 (z1:Int),.int .u32 (z2:Int),.slice D1 n1 d1,.int .i64 (z3:Int),.int .i64 (z4:Int),.bool z5]).six;have b2:=alloc_one wr (.cells #[.int .i64 (z1:Int),.int .u32 (z2:Int),.slice D1 n1 d1,.int .i64 (z3:Int),.int .i64 (z4:Int),.bool z5] 265);have bb:=below_step hbel b2 (Nat.le_refl _);have PW:=fun (i:Nat) (w2:World) (hb:Below B wr w2)=>secPick_any i w2 ((hW.below (hbel.mono hB)).below hb)
   have PL:=fun (i:Nat) (w2:World) (hb:Below B wr w2)=>secPick_any i w2 ((hL.below (hbel.mono hB)).below hb)
   have hBr:B≤wr.heap.size:=Nat.le_trans hB hbel.size;have b2':=b2.mono hBr;have PLk:=Lib.hid (fun w2 hb=>PL k w2 hb);have hLk:=hpos k hlt;have hle:decide (L.getD k 0≤0)=false:=decide_eq_false (by omega);generalize L.getD k 0=lk at *;have PWk:=Lib.hid (fun w2 hb=>PW k w2 hb);have PWp:=Lib.hid (fun w2 hb=>PW p w2 hb);generalize W.getD k 0=wk at *;generalize W.getD p 0=wp at *;have i1:((k:Int) == (np:Int))=decide (k=np):=by rw [Bool.eq_iff_iff]; simp only [beq_iff_eq,decide_eq_true_eq]; omega
   generalize hzz:((z3:Int) != 0)=y3 at *;have hy3:=Lib.hid hzz;clear hst h hw hl PW PL hzz HR hpos hW hL hLk;have BB:=Lib.hid bb;have B2:=Lib.hid b2';clear bb b2' b2 hBr hB hbel
   by_cases hc:nh=true∧k=np
   ·rw [if_pos hc] at HE
    obtain ⟨rfl,hkn⟩:=hc;rw [decide_eq_true hkn] at i1;clear PLk PWk PWp hle hkn;cases y3 with
    | true =>
     have e3:=hy3.out;go_wp2_with fail
     go_roundw
     case rel=>exact ⟨k + 1,p,x,by omega,by omega,by go_num,rfl,rfl,HE,BB.out⟩
     case measure=>simp [intOf] <;> omega
    | false =>
     have e3:=hy3.out;cases z5 with
     | true =>
      go_wp2_with fail
      go_roundw
      case rel=>exact ⟨k + 1,p,x,by omega,by omega,by go_num,rfl,rfl,HE,BB.out⟩
      case measure=>simp [intOf] <;> omega
     | false =>
      go_wp2_with fail
      go_roundw
      case rel=>exact ⟨k + 1,p,x,by omega,by omega,by go_num,rfl,rfl,HE,BB.out⟩
      case measure=>simp [intOf] <;> omega
   ·rw [if_neg hc] at HE
    have hnk:nh=true→decide (k=np)=false:=fun h=>decide_eq_false fun e=>hc ⟨h,e⟩
    clear hc;cases nh with
    | true =>
     rw [hnk rfl] at i1;clear hnk;cases y3 with
     | true =>
      have e3:=hy3.out;cases x with
      | false =>
       rw [if_pos (.inl rfl)] at HE;go_wp2_with fail
       refine (PLk.out _ B2.out).mono ?_;rintro e _ ⟨rfl,rfl⟩;go_wp2_with fail
       go_roundw
       case rel=>exact ⟨k + 1,k,true,by omega,by omega,by go_num,rfl,rfl,HE,BB.out⟩
       case measure=>simp [intOf] <;> omega
      | true =>
       by_cases hv:wk < wp
       ·have e2:decide (wk < wp)=true:=decide_eq_true hv
        rw [if_pos (.inr hv)] at HE;clear hv;go_wp2_with fail
        refine (PLk.out _ B2.out).mono ?_;rintro e _ ⟨rfl,rfl⟩;go_wp2_with fail
        refine (PWk.out _ B2.out).mono ?_;rintro e _ ⟨rfl,rfl⟩;go_wp2_with fail
        refine (PWp.out _ B2.out).mono ?_;rintro e _ ⟨rfl,rfl⟩;go_wp2_with fail
        go_roundw
        case rel=>exact ⟨k + 1,k,true,by omega,by omega,by go_num,rfl,rfl,HE,BB.out⟩
        case measure=>simp [intOf] <;> omega
       ·have e2:decide (wk < wp)=false:=decide_eq_false hv
        rw [if_neg (fun hh=>by rcases hh with h | h; cases h; exact hv h)] at HE;clear hv;go_wp2_with fail
        refine (PLk.out _ B2.out).mono ?_;rintro e _ ⟨rfl,rfl⟩;go_wp2_with fail
        refine (PWk.out _ B2.out).mono ?_;rintro e _ ⟨rfl,rfl⟩;go_wp2_with fail
        refine (PWp.out _ B2.out).mono ?_;rintro e _ ⟨rfl,rfl⟩;go_wp2_with fail
        go_roundw
        case rel=>exact ⟨k + 1,p,true,by omega,by omega,by go_num,rfl,rfl,HE,BB.out⟩
        case measure=>simp [intOf] <;> omega
     | false =>
      have e3:=hy3.out;cases z5 with
      | true =>
       clear PLk hle;cases x with
       | false =>
        rw [if_pos (.inl rfl)] at HE;go_wp2_with fail
        go_roundw
        case rel=>exact ⟨k + 1,k,true,by omega,by omega,by go_num,rfl,rfl,HE,BB.out⟩
        case measure=>simp [intOf] <;> omega
       | true =>
        by_cases hv:wk < wp
        ·have e2:decide (wk < wp)=true:=decide_eq_true hv
         rw [if_pos (.inr hv)] at HE;clear hv;go_wp2_with fail
         refine (PWk.out _ B2.out).mono ?_;rintro e _ ⟨rfl,rfl⟩;go_wp2_with fail
         refine (PWp.out _ B2.out).mono ?_;rintro e _ ⟨rfl,rfl⟩;go_wp2_with fail
         go_roundw
         case rel=>exact ⟨k + 1,k,true,by omega,by omega,by go_num,rfl,rfl,HE,BB.out⟩
         case measure=>simp [intOf] <;> omega
        ·have e2:decide (wk < wp)=false:=decide_eq_false hv
         rw [if_neg (fun hh=>by rcases hh with h | h; cases h; exact hv h)] at HE;clear hv;go_wp2_with fail
         refine (PWk.out _ B2.out).mono ?_;rintro e _ ⟨rfl,rfl⟩;go_wp2_with fail
         refine (PWp.out _ B2.out).mono ?_;rintro e _ ⟨rfl,rfl⟩;go_wp2_with fail
         go_roundw
         case rel=>exact ⟨k + 1,p,true,by omega,by omega,by go_num,rfl,rfl,HE,BB.out⟩
         case measure=>simp [intOf] <;> omega
      | false =>
       cases x with
       | false =>
        rw [if_pos (.inl rfl)] at HE;go_wp2_with fail
        refine (PLk.out _ B2.out).mono ?_;rintro e _ ⟨rfl,rfl⟩;go_wp2_with fail
        go_roundw
        case rel=>exact ⟨k + 1,k,true,by omega,by omega,by go_num,rfl,rfl,HE,BB.out⟩
        case measure=>simp [intOf] <;> omega
       | true =>
        by_cases hv:wk < wp
        ·have e2:decide (wk < wp)=true:=decide_eq_true hv
         rw [if_pos (.inr hv)] at HE;clear hv;go_wp2_with fail
         refine (PLk.out _ B2.out).mono ?_;rintro e _ ⟨rfl,rfl⟩;go_wp2_with fail
         refine (PWk.out _ B2.out).mono ?_;rintro e _ ⟨rfl,rfl⟩;go_wp2_with fail
         refine (PWp.out _ B2.out).mono ?_;rintro e _ ⟨rfl,rfl⟩;go_wp2_with fail
         go_roundw
         case rel=>exact ⟨k + 1,k,true,by omega,by omega,by go_num,rfl,rfl,HE,BB.out⟩
         case measure=>simp [intOf] <;> omega
        ·have e2:decide (wk < wp)=false:=decide_eq_false hv
         rw [if_neg (fun hh=>by rcases hh with h | h; cases h; exact hv h)] at HE;clear hv;go_wp2_with fail
         refine (PLk.out _ B2.out).mono ?_;rintro e _ ⟨rfl,rfl⟩;go_wp2_with fail
         refine (PWk.out _ B2.out).mono ?_;rintro e _ ⟨rfl,rfl⟩;go_wp2_with fail
         refine (PWp.out _ B2.out).mono ?_;rintro e _ ⟨rfl,rfl⟩;go_wp2_with fail
         go_roundw
         case rel=>exact ⟨k + 1,p,true,by omega,by omega,by go_num,rfl,rfl,HE,BB.out⟩
         case measure=>simp [intOf] <;> omega
    | false =>
     clear hnk;cases y3 with
     | true =>
      have e3:=hy3.out;cases x with
      | false =>
       rw [if_pos (.inl rfl)] at HE;go_wp2_with fail
       refine (PLk.out _ B2.out).mono ?_;rintro e _ ⟨rfl,rfl⟩;go_wp2_with fail
       go_roundw
       case rel=>exact ⟨k + 1,k,true,by omega,by omega,by go_num,rfl,rfl,HE,BB.out⟩
       case measure=>simp [intOf] <;> omega
      | true =>
       by_cases hv:wk < wp
       ·have e2:decide (wk < wp)=true:=decide_eq_true hv
        rw [if_pos (.inr hv)] at HE;clear hv;go_wp2_with fail
        refine (PLk.out _ B2.out).mono ?_;rintro e _ ⟨rfl,rfl⟩;go_wp2_with fail
        refine (PWk.out _ B2.out).mono ?_;rintro e _ ⟨rfl,rfl⟩;go_wp2_with fail
        refine (PWp.out _ B2.out).mono ?_;rintro e _ ⟨rfl,rfl⟩;go_wp2_with fail
        go_roundw
        case rel=>exact ⟨k + 1,k,true,by omega,by omega,by go_num,rfl,rfl,HE,BB.out⟩
        case measure=>simp [intOf] <;> omega
       ·have e2:decide (wk < wp)=false:=decide_eq_false hv
        rw [if_neg (fun hh=>by rcases hh with h | h; cases h; exact hv h)] at HE;clear hv;go_wp2_with fail
        refine (PLk.out _ B2.out).mono ?_;rintro e _ ⟨rfl,rfl⟩;go_wp2_with fail
        refine (PWk.out _ B2.out).mono ?_;rintro e _ ⟨rfl,rfl⟩;go_wp2_with fail
        refine (PWp.out _ B2.out).mono ?_;rintro e _ ⟨rfl,rfl⟩;go_wp2_with fail
        go_roundw
        case rel=>exact ⟨k + 1,p,true,by omega,by omega,by go_num,rfl,rfl,HE,BB.out⟩
        case measure=>simp [intOf] <;> omega
     | false =>
      have e3:=hy3.out;cases z5 with
      | true =>
       clear PLk hle;cases x with
       | false =>
        rw [if_pos (.inl rfl)] at HE;go_wp2_with fail
        go_roundw
        case rel=>exact ⟨k + 1,k,true,by omega,by omega,by go_num,rfl,rfl,HE,BB.out⟩
        case measure=>simp [intOf] <;> omega
       | true =>
        by_cases hv:wk < wp
        ·have e2:decide (wk < wp)=true:=decide_eq_true hv
         rw [if_pos (.inr hv)] at HE;clear hv;go_wp2_with fail
         refine (PWk.out _ B2.out).mono ?_;rintro e _ ⟨rfl,rfl⟩;go_wp2_with fail
         refine (PWp.out _ B2.out).mono ?_;rintro e _ ⟨rfl,rfl⟩;go_wp2_with fail
         go_roundw
         case rel=>exact ⟨k + 1,k,true,by omega,by omega,by go_num,rfl,rfl,HE,BB.out⟩
         case measure=>simp [intOf] <;> omega
        ·have e2:decide (wk < wp)=false:=decide_eq_false hv
         rw [if_neg (fun hh=>by rcases hh with h | h; cases h; exact hv h)] at HE;clear hv;go_wp2_with fail
         refine (PWk.out _ B2.out).mono ?_;rintro e _ ⟨rfl,rfl⟩;go_wp2_with fail
         refine (PWp.out _ B2.out).mono ?_;rintro e _ ⟨rfl,rfl⟩;go_wp2_with fail
         go_roundw
         case rel=>exact ⟨k + 1,p,true,by omega,by omega,by go_num,rfl,rfl,HE,BB.out⟩
         case measure=>simp [intOf] <;> omega
      | false =>
       cases x with
       | false =>
        rw [if_pos (.inl rfl)] at HE;go_wp2_with fail
        refine (PLk.out _ B2.out).mono ?_;rintro e _ ⟨rfl,rfl⟩;go_wp2_with fail
        go_roundw
        case rel=>exact ⟨k + 1,k,true,by omega,by omega,by go_num,rfl,rfl,HE,BB.out⟩
        case measure=>simp [intOf] <;> omega
       | true =>
        by_cases hv:wk < wp
        ·have e2:decide (wk < wp)=true:=decide_eq_true hv
         rw [if_pos (.inr hv)] at HE;clear hv;go_wp2_with fail
         refine (PLk.out _ B2.out).mono ?_;rintro e _ ⟨rfl,rfl⟩;go_wp2_with fail
         refine (PWk.out _ B2.out).mono ?_;rintro e _ ⟨rfl,rfl⟩;go_wp2_with fail
         refine (PWp.out _ B2.out).mono ?_;rintro e _ ⟨rfl,rfl⟩;go_wp2_with fail
         go_roundw
         case rel=>exact ⟨k + 1,k,true,by omega,by omega,by go_num,rfl,rfl,HE,BB.out⟩
         case measure=>simp [intOf] <;> omega
        ·have e2:decide (wk < wp)=false:=decide_eq_false hv
         rw [if_neg (fun hh=>by rcases hh with h | h; cases h; exact hv h)] at HE;clear hv;go_wp2_with fail
         refine (PLk.out _ B2.out).mono ?_;rintro e _ ⟨rfl,rfl⟩;go_wp2_with fail
         refine (PWk.out _ B2.out).mono ?_;rintro e _ ⟨rfl,rfl⟩;go_wp2_with fail
         refine (PWp.out _ B2.out).mono ?_;rintro e _ ⟨rfl,rfl⟩;go_wp2_with fail
         go_roundw
         case rel=>exact ⟨k + 1,p,true,by omega,by omega,by go_num,rfl,rfl,HE,BB.out⟩
         case measure=>simp [intOf] <;> omega
  ·obtain rfl:k=n:=by omega
   have HE2:Hid (res=(p,x)):=Lib.hid (by rw [HE.out,Jr.nx_end (by omega)]);clear HE h hl;go_wp2_with fail
   go_ret2
   exact ⟨by rw [HE2.out]; rfl,hbel⟩
end Go.Proofs.YtijegngfclkdaaaGreatDoor
