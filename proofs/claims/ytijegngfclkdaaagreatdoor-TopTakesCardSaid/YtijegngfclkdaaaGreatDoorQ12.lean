/-
  Piece 12 of the proof.
  Conditions: none.
-/
import Derived.Laws.Concat
import Derived.Laws.RangeAny
import Derived.ArgAppend
import Derived.Test.YtijegngfclkdaaaGreatDoorQ10
import Derived.Test.YtijegngfclkdaaaGreatDoorQ11
set_option linter.unusedVariables false
set_option linter.unusedSimpArgs false
set_option maxHeartbeats 100000000
set_option maxRecDepth 100000
namespace Go.Proofs.YtijegngfclkdaaaGreatDoor
namespace Rp
open aD Dc
def fj (n:Int):Bool:=decide ((0<=n/\n<=240)\/(254<=n/\n<=255))
def ar (l:List En) (w:Nat) (t:Int) (ws:List Nat):Int:=if aY.place w≠0 then aY.place w else if fj t=false then 101253168 else Mp.ar l true ws
def fW (l:List En) (w:Nat) (t:Int) (ws:List Nat) (waits:List Vl) (IC:Int) (rem:Bool) (b:List UInt8):List Vl×Int×List Vl :=
 if aY.fl w=0\/IC≠(aY.fl w:Int)\/rem=true\/ws.length=0 then ([],0,waits)
 else if (Mp.aT l ws b).2=0 then (if t<=240 then ([],0,(Mp.aT l ws b).1) else ((Mp.aT l ws b).1,0,waits))
 else if (Mp.aT l ws b).2=2 then ([],33296,waits) else if (Mp.aT l ws b).2=9 then ([],25344,waits) else ([],0,waits)
theorem dW {l:List En} {w:Nat} {t:Int} {ws:List Nat} (h:ar l w t ws=0):aY.place w=0/\fj t=true/\Mp.ar l true ws=0:=by
 unfold ar at h
 by_cases h1:aY.place w=0
 ·rw [if_neg (by simpa using h1)] at h
  cases h2:fj t
  ·rw [h2] at h; simp at h
  ·rw [h2] at h
   exact ⟨h1,rfl,by simpa using h⟩
 ·rw [if_pos h1] at h
  exact absurd h h1
end Rp
section
open Go.RowKit
theorem od:ET Tryz.prog 25 5 1 1 (.int .u8 0):=⟨Tryz.underlying25,info_parts (by kernel_rfl),rfl,by decide⟩
theorem Mg {w:World} {B:Nat} {A:Option Addr} {n c:Nat} {l:List UInt8} (h:RB w B A n c l) :
  (convert 25 9 (.slice A n c)).run Tryz.prog w=.ok (.string ⟨l.toArray⟩) w:=h.conv 25 5 Tryz.underlying25 Tryz.underlying5 _ Tryz.underlying9
theorem iq (v:Nat) (hv:v < 4294967296) (h:aY.bad v=true) (w:World):Calls Tryz.prog 82 #[.int .u32 (v:Int)] w fun e w'=>e=.returned (.tuple #[.agg #[.bool false,.bool false,.int .i64 0],.int .i64 4])/\Below w.heap.size w w':=by
 have e1:=aY.oc v hv;have h2:2048<=v % 1073741824:=by unfold aY.bad at h; exact of_decide_eq_true h
 generalize v % 1073741824=r at *;have b0:=ae w (.cells #[.bool false,.bool false,.int .i64 0] 161);have K:=ao.new w 161 #[.bool false,.bool false,.int .i64 0];have F:=K.three;clear h;go_enter Tryz.func82,Tryz.ntmps82
 go_wp2_with fail
 have R:=K.three;exact bodyPost_ret (v:=.tuple #[.agg #[.bool false,.bool false,.int .i64 0],.int .i64 4]) (by simp [results,Tryz.results82,go_sem,R]) rfl ⟨rfl,b0⟩
theorem fG (v:Nat) (hv:v < 4294967296) (h:aY.bad v=false) (w:World):Calls Tryz.prog 82 #[.int .u32 (v:Int)] w fun e w'=>e=.returned (.tuple #[.agg #[.bool (aY.off v),.bool (aY.IT v),.int .i64 (aY.id v:Int)],.int .i64 0])/\Below w.heap.size w w':=by
 have e1:=aY.oc v hv;have e2:=aY.Jp v hv;have e3:=aY.I_ v hv;have h2:v % 1073741824 < 2048:=by unfold aY.bad at h; have:=of_decide_eq_false h; omega
 have hid:v % 1073741824=aY.id v:=by unfold aY.id; omega
 rw [hid] at e1 h2;have e4:wrap64 (aY.id v:Int)=(aY.id v:Int):=by unfold wrap64; omega
 generalize aY.off v=o at *;generalize aY.IT v=nr at *;generalize aY.id v=i at *;have b0:=ae w (.cells #[.bool false,.bool false,.int .i64 0] 161);have K:=ao.new w 161 #[.bool false,.bool false,.int .i64 0];have F:=K.three;clear h hid;go_enter Tryz.func82,Tryz.ntmps82
 go_wp2_with fail
 have R:=(ao.new w 161 #[.bool o,.bool nr,.int .i64 (i:Int)]).three;exact bodyPost_ret (v:=.tuple #[.agg #[.bool o,.bool nr,.int .i64 (i:Int)],.int .i64 0]) (by simp [results,Tryz.results82,go_sem,R]) rfl ⟨rfl,ae _ _⟩
theorem fC (n a b:Int) (w:World):Calls Tryz.prog 100 #[.int .i64 n,.int .i64 a,.int .i64 b] w fun e w'=>e=.returned (.bool (decide (a<=n/\n<=b)))/\w=w':=by
 by_cases h1:a<=n
 ·by_cases h2:n<=b
  ·rw [decide_eq_true (And.intro h1 h2)]
   go_enter Tryz.func100,Tryz.ntmps100
   go_wp2_with fail
   go_ret
   exact ⟨rfl,rfl⟩
  ·rw [decide_eq_false (fun h:a<=n/\n<=b=>h2 h.2)]
   go_enter Tryz.func100,Tryz.ntmps100
   go_wp2_with fail
   go_ret
   exact ⟨rfl,rfl⟩
 ·rw [decide_eq_false (fun h:a<=n/\n<=b=>h1 h.1)]
  go_enter Tryz.func100,Tryz.ntmps100
  go_wp2_with fail
  go_ret
  exact ⟨rfl,rfl⟩
theorem fQ (n:Int) (w:World):Calls Tryz.prog 83 #[.int .i64 n] w fun e w'=>e=.returned (.bool (aY.jO n))/\w=w':=by
 have B:=fun a b=>zq (fun w=>fC n a b w)
 have B1:=B 257 384;have B2:=B 1409 1535;have B3:=B 1537 1663;have B4:=B 1760 1791;clear B;have hr:aY.jO n=(decide (n < 128) || decide (2047 < n) || decide (257<=n/\n<=384) || decide (1409<=n/\n<=1535) || decide (1537<=n/\n<=1663) || decide (1760<=n/\n<=1791) || decide (1792 < n)):=by
  unfold aY.jO;rw [Bool.eq_iff_iff];simp only [Bool.or_eq_true,decide_eq_true_eq,or_assoc]
 rw [hr];clear hr;generalize hb1:decide (257<=n/\n<=384)=b1 at *;generalize hb2:decide (1409<=n/\n<=1535)=b2 at *;generalize hb3:decide (1537<=n/\n<=1663)=b3 at *;generalize hb4:decide (1760<=n/\n<=1791)=b4 at *;clear hb1 hb2 hb3 hb4
 by_cases h1:n < 128
 ·simp only [h1,decide_true,Bool.true_or]
  go_enter Tryz.func83,Tryz.ntmps83
  go_wp2_with fail
  go_ret
  exact ⟨rfl,rfl⟩
 ·by_cases h2:2047 < n
  ·simp only [h1,h2,decide_true,Bool.true_or,Bool.or_true]
   go_enter Tryz.func83,Tryz.ntmps83
   go_wp2_with fail
   go_ret
   exact ⟨rfl,rfl⟩
  ·simp only [h1,h2,decide_false,Bool.false_or]
   go_enter Tryz.func83,Tryz.ntmps83
   go_wp2_with fail
   refine (B1.out _).mono ?_;rintro e _ ⟨rfl,rfl⟩;cases b1
   ·go_wp2_with fail
    refine (B2.out _).mono ?_;rintro e _ ⟨rfl,rfl⟩;cases b2
    ·go_wp2_with fail
     refine (B3.out _).mono ?_;rintro e _ ⟨rfl,rfl⟩;cases b3
     ·go_wp2_with fail
      refine (B4.out _).mono ?_;rintro e _ ⟨rfl,rfl⟩;cases b4
      ·by_cases h3:1792 < n
       ·go_wp2_with fail
        go_ret
        exact ⟨by simp [h3],rfl⟩
       ·go_wp2_with fail
        go_ret
        exact ⟨by simp [h3],rfl⟩
      ·go_wp2_with fail
       go_ret
       exact ⟨rfl,rfl⟩
     ·go_wp2_with fail
      go_ret
      exact ⟨rfl,rfl⟩
    ·go_wp2_with fail
     go_ret
     exact ⟨rfl,rfl⟩
   ·go_wp2_with fail
    go_ret
    exact ⟨rfl,rfl⟩
theorem xm (v:Nat) (hv:v < 4294967296) (w:World):Calls Tryz.prog 53 #[.int .u32 (v:Int)] w fun e w'=>e=.returned (.int .u32 (aY.place v))/\Below w.heap.size w w':=by
 unfold aY.place;cases hb:aY.bad v
 ·have SP:=zq (fun w=>fG v hv hb w)
  have RE:=zq (fun w=>fQ (aY.id v:Int) w);clear hb;simp only [Bool.false_eq_true,if_false];generalize aY.jO (aY.id v:Int)=rs at *;generalize (aY.id v:Int)=i at *;generalize aY.IT v=nr at *;cases ho:aY.off v
  ·rw [ho] at SP
   clear ho;cases rs
   all_goals
    simp only [Bool.false_eq_true,and_false,if_false,and_self,if_true,true_and];go_enter Tryz.func53,Tryz.ntmps53
    go_wp2_with fail
    refine (SP.out _).mono ?_;rintro e w1 ⟨rfl,b1⟩;have b2:=ae w1 (.cells #[.bool false,.bool nr,.int .i64 i] 161);have K:=(ao.new w1 161 #[.bool false,.bool nr,.int .i64 i]).three;go_wp2_with fail
    refine (RE.out _).mono ?_;rintro e _ ⟨rfl,rfl⟩;go_wp2_with fail
    go_ret
    exact ⟨rfl,aa b1 b2 lq⟩
  ·rw [ho] at SP
   clear ho;simp only [Bool.true_eq_false,false_and,if_false];go_enter Tryz.func53,Tryz.ntmps53
   go_wp2_with fail
   refine (SP.out _).mono ?_;rintro e w1 ⟨rfl,b1⟩;have b2:=ae w1 (.cells #[.bool true,.bool nr,.int .i64 i] 161);have K:=(ao.new w1 161 #[.bool true,.bool nr,.int .i64 i]).three;go_wp2_with fail
   go_ret
   exact ⟨rfl,aa b1 b2 lq⟩
 ·have SP:=zq (fun w=>iq v hv hb w)
  clear hb;simp only [if_true];go_enter Tryz.func53,Tryz.ntmps53
  go_wp2_with fail
  refine (SP.out _).mono ?_;rintro e w1 ⟨rfl,b1⟩;have b2:=ae w1 (.cells #[.bool false,.bool false,.int .i64 0] 161);have K:=(ao.new w1 161 #[.bool false,.bool false,.int .i64 0]).three;go_wp2_with fail
  go_ret
  exact ⟨rfl,aa b1 b2 lq⟩
theorem vW (v:Nat) (hv:v < 4294967296) (w:World):Calls Tryz.prog 318 #[.int .u32 (v:Int)] w fun e w'=>e=.returned (.int .u32 (aY.place v))/\Below w.heap.size w w':=by
 unfold aY.place;cases hb:aY.bad v
 ·have SP:=zq (fun w=>fG v hv hb w)
  have RE:=zq (fun w=>fQ (aY.id v:Int) w);clear hb;simp only [Bool.false_eq_true,if_false];generalize aY.jO (aY.id v:Int)=rs at *;generalize (aY.id v:Int)=i at *;generalize aY.IT v=nr at *;cases ho:aY.off v
  ·rw [ho] at SP
   clear ho;cases rs
   all_goals
    simp only [Bool.false_eq_true,and_false,if_false,and_self,if_true,true_and];go_enter Tryz.func318,Tryz.ntmps318
    go_wp2_with fail
    refine (SP.out _).mono ?_;rintro e w1 ⟨rfl,b1⟩;have b2:=ae w1 (.cells #[.bool false,.bool nr,.int .i64 i] 161);have K:=(ao.new w1 161 #[.bool false,.bool nr,.int .i64 i]).three;go_wp2_with fail
    refine (RE.out _).mono ?_;rintro e _ ⟨rfl,rfl⟩;go_wp2_with fail
    go_ret
    exact ⟨rfl,aa b1 b2 lq⟩
  ·rw [ho] at SP
   clear ho;simp only [Bool.true_eq_false,false_and,if_false];go_enter Tryz.func318,Tryz.ntmps318
   go_wp2_with fail
   refine (SP.out _).mono ?_;rintro e w1 ⟨rfl,b1⟩;have b2:=ae w1 (.cells #[.bool true,.bool nr,.int .i64 i] 161);have K:=(ao.new w1 161 #[.bool true,.bool nr,.int .i64 i]).three;go_wp2_with fail
   go_ret
   exact ⟨rfl,aa b1 b2 lq⟩
 ·have SP:=zq (fun w=>iq v hv hb w)
  clear hb;simp only [if_true];go_enter Tryz.func318,Tryz.ntmps318
  go_wp2_with fail
  refine (SP.out _).mono ?_;rintro e w1 ⟨rfl,b1⟩;have b2:=ae w1 (.cells #[.bool false,.bool false,.int .i64 0] 161);have K:=(ao.new w1 161 #[.bool false,.bool false,.int .i64 0]).three;go_wp2_with fail
  go_ret
  exact ⟨rfl,aa b1 b2 lq⟩
def T (s:List UInt8):ByteArray:=⟨s.toArray⟩
theorem L6 {a b:List UInt8} (h:T a=T b):a=b:=by
 unfold T at h;injection h with h
 simpa using h
theorem Qp {a b:List UInt8} (h:a≠b):T a≠T b:=fun e=>h (L6 e)
theorem tX (bs:ByteArray):∀ (d i:Nat) (r:List UInt8),bs.size - i=d->ByteArray.toList.loop bs i r=r.reverse ++ bs.data.toList.drop i:=by
 intro d
 induction d with
 | zero =>
  intro i r h;have h2:bs.data.toList.length<=i:=by show bs.data.size<=i; have:bs.size=bs.data.size:=rfl; omega
  rw [ByteArray.toList.loop,if_neg (by omega),List.drop_of_length_le h2,List.append_nil]
 | succ d ih =>
  intro i r h;have hi:i < bs.size:=by omega
  have hi':i < bs.data.toList.length:=hi;rw [ByteArray.toList.loop,if_pos hi,ih (i + 1) _ (by omega),List.drop_eq_getElem_cons hi',List.reverse_cons,List.append_assoc]
  congr 2
  rw [List.cons_append,List.nil_append]
  congr 1
  have h3:bs.get! i=bs[i]:=by simp [ByteArray.get!,getElem!_pos,hi]; rfl
  rw [h3];rfl
theorem pA (s:List UInt8):(T s).toList=s:=by
 have:=tX (T s) _ 0 [] rfl;exact this.trans (by simp [T])
theorem pF (s:List UInt8):(T s).size=s.length:=by show s.toArray.size=_; simp
theorem UX (t:ByteArray):∃ s,t=T s:=⟨t.data.toList,by cases t; simp [T]⟩
theorem Rg (s : List UInt8) (k : Nat) (h : k < (T s).size) : (T s)[k]'h = s.getD k 0 := by
 have h':k < s.length:=by rw [pF] at h; exact h
 show s.toArray[k]=_;simp [List.getD,h']
theorem vy (s:List UInt8) (kd:IntKind) (z:Int) (k:Nat) (hz:z=(k:Int)) (hk:k < s.length) (w:World) :
  (Instr.index 9 (.string (T s)) (.int kd z)).run Tryz.prog w=.ok (.int .u8 ((s.getD k 0).toNat:Int)) w:=by
 subst hz;rw [run_index_string w _ _ kd _ Tryz.underlying9,dif_pos ⟨by omega,by rw [pF]; exact Int.ofNat_lt.2 hk⟩];have e:((k:Int)).toNat=k:=by omega
 simp only [e,Rg]
theorem fP {w:World} {base base' e e' size size' n n':Nat} {v v':Value} {xs xs':List Value} (h:w.ownsRow base e size v n xs) (h':w.ownsRow base' e' size' v' n' xs') (hne:e≠e'):v'.ownBlock=none\/v'.ownBlock≠v.ownBlock:=by
 rcases h'.2 with ⟨rfl,_⟩ | ⟨g',cap',cur',rfl,_,hh',_⟩
 ·exact .inl rfl
 ·right
  intro he;rcases h.2 with ⟨rfl,_⟩ | ⟨g,cap,cur,rfl,_,hh,_⟩
  ·cases he
  ·have:g'=g:=by simpa [Value.ownBlock] using he
   subst this;rw [hh] at hh';injection hh' with hh'
   injection hh' with _ ht
   exact hne ht
section
variable {α:Type} {R R':α->List Value->Prop} {w w':World} {B B' size n c:Nat} {A:Option Addr} {fs:List α}
def RS (R:α->List Value->Prop) (w:World) (B size:Nat) (A:Option Addr) (n c:Nat) (fs:List α):Prop:=∃ xs,RV w B size A n c xs/\Rows R size fs xs
def OS (R:α->List Value->Prop) (w:World) (base e size:Nat) (A:Option Addr) (n c:Nat) (fs:List α):Prop:=∃ xs,OV w base e size A n c xs/\Rows R size fs xs
theorem RS.len (h:RS R w B size A n c fs) (hs:0 < size):fs.length=n:=by
 obtain ⟨xs,h1,h2⟩:=h;have e:=h1.len;rw [h2.len] at e;exact Nat.eq_of_mul_eq_mul_right hs e
theorem RS.lt (h:RS R w B size A n c fs):n<=9223372036854775807:=by
 obtain ⟨xs,h1,h2⟩:=h;exact Nat.le_trans h1.le h1.cap
theorem RS.dX (h:RS R w B size A n c fs) (hk:∀ p:Addr,p.block < B->w'.cell? p=w.cell? p) (hi:∀ f cs,R f cs->R' f cs):RS R' w' B size A n c fs:=by
 obtain ⟨xs,h1,h2⟩:=h;exact ⟨xs,h1.dX hk,h2.imp hi⟩
theorem RS.below (h:RS R w B size A n c fs) (hb:Below B w w') (hi:∀ f cs,R f cs->R' f cs):RS R' w' B size A n c fs:=h.dX (fun _ hp=>hb.cell hp) hi
theorem RS.imp (h:RS R w B size A n c fs) (hi:∀ f cs,R f cs->R' f cs):RS R' w B size A n c fs:=by
 obtain ⟨xs,h1,h2⟩:=h;exact ⟨xs,h1,h2.imp hi⟩
theorem RS.at_ (h:RS R w B size A n c fs) (hs:0 < size) {i:Nat} {f:α} (hf:fs[i]?=some f):∃ b o cs,A=some ⟨b,o,none⟩/\b < B/\R f cs/\∀ j u,j < size->cs[j]?=some u->w.cell? ⟨b,o + i * size + j,none⟩=some u:=by
 have hl:=h.len hs;have hi:i < n:=by rw [<- hl]; exact (List.getElem?_eq_some_iff.1 hf).1
 obtain ⟨xs,h1,h2⟩:=h;obtain ⟨b,o,rfl,hb,hc⟩:=h1.at_ (by omega);refine ⟨b,o,_,rfl,hb,h2.2 i f hf,fun j u hj hu=>?_⟩;rw [List.getElem?_take,if_pos hj,List.getElem?_drop] at hu;rw [Nat.add_assoc];exact hc _ u hu
theorem OS.none_ (w:World) (base e size:Nat):OS R w base e size none 0 0 []:=⟨[],OV.none_ _ _ _ _,Rows.nil⟩
theorem OS.rs {base e:Nat} (h:OS R w base e size A n c fs):RS R w w.heap.size size A n c fs:=by
 obtain ⟨xs,h1,h2⟩:=h;exact ⟨xs,h1.rv,h2⟩
theorem OS.below {base e:Nat} (h:OS R w base e size A n c fs) (hb:Below w.heap.size w w') (hi:∀ f cs,R f cs->R' f cs):OS R' w' base e size A n c fs:=by
 obtain ⟨xs,h1,h2⟩:=h;exact ⟨xs,h1.below hb,h2.imp hi⟩
theorem OS.more {base base' e:Nat} (h:OS R w base e size A n c fs) (hb:base'<=base) (hi:∀ f cs,R f cs->R' f cs):OS R' w base' e size A n c fs:=by
 obtain ⟨xs,h1,h2⟩:=h;exact ⟨xs,h1.more hb,h2.imp hi⟩
theorem OS.len {base e:Nat} (h:OS R w base e size A n c fs) (hs:0 < size):fs.length=n:=h.rs.len hs
end
section
variable {α:Type} {P:Program} {T E size bytes:Nat} {z:Value}
theorem dU (ht:ET P T E size bytes z) (R:World->α->List Value->Prop) {w:World} {ops:Array Oper} {rest:List Oper} {o:Oper} {a:Act} {Q:Exit->Act->World->Prop} (hgd:o.guard=none) (s x:Operand)
  (ho:o.op=.call { callee:=.builtin .append,args:=#[s,x],argTypes:=#[T,T] })
  {A:Option Addr} {n c:Nat} (hs:a.eval s=.slice A n c) {g:Nat} (hx:a.eval x=.slice (some ⟨g,0,none⟩) 1 1) (hgw:g=w.heap.size)
  (base:Nat) {l:List α} (hown:OS (R w) w base E size A n c l) (f:α) {cs:List Value} (hf:R w f cs) (hl:cs.length=size) (h1:∀ u∈cs,u.oneCell'=true)
  (hbytes:(n + 1) * bytes<=140737488355328) (h63:n + 1<=9223372036854775807) (hbase:base<=w.heap.size)
  (hR:∀ w1 A1 n1 c1 xs,OV w base E size A1 n1 c1 xs->w.grownBy w1 (Value.slice A1 n1 c1).ownBlock->∀ f cs,R w f cs->R w1 f cs)
  (h:∀ A1 c1 w1,OS (R w1) w1 base E size A1 (n + 1) c1 (l ++ [f])->Below base w w1->w.grownBy w1 (Value.slice A n c).ownBlock ->
   ((Value.slice A1 (n + 1) c1).ownBlock=(Value.slice A n c).ownBlock\/(Value.slice A1 (n + 1) c1).ownBlock=some (w.heap.size + 1))->wpList P ops Q rest (a.put o.dst (.slice A1 (n + 1) c1)) w1) :
  wpList P ops Q (o :: rest) a (w.alloc (.cells cs.toArray E)):=by
 subst hgw;obtain ⟨xs,k1,k2⟩:=hown;have hnew:=(OV.new (base:=base) (e:=E) (size:=size) w cs 1 (by omega) (by omega) hbase).rv;refine b_ ht hgd s x ho hs hx base (k1.alloc _) hnew h1 hbytes h63 (by simp; omega) fun A1 c1 w1 j1 j2 j3=>?_
 have hg:w.grownBy w1 (Value.slice A n c).ownBlock:=World.grownBy.trans (World.grownBy_alloc w _ _) j2;have hi:=hR w1 A n c xs k1 hg;exact h A1 c1 w1 ⟨_,j1,Rows.append (k2.imp hi) (Rows.one (hi _ _ hf) hl)⟩ (bQ hg k1.lt hbase) hg (by simpa using j3)
theorem cO (ht:ET P T E size bytes z) (R:World->α->List Value->Prop) {w:World} {ops:Array Oper} {rest:List Oper} {o:Oper} {a:Act} {Q:Exit->Act->World->Prop} (hgd:o.guard=none) (s x:Operand)
  (ho:o.op=.call { callee:=.builtin .append,args:=#[s,x],argTypes:=#[T,T] })
  {A:Option Addr} {n c:Nat} (hs:a.eval s=.slice A n c) {A':Option Addr} {c':Nat} (hx:a.eval x=.slice A' 1 c')
  (base:Nat) {l:List α} (hown:OS (R w) w base E size A n c l) (f:α) {cs:List Value} {B:Nat} (hr:RV w B size A' 1 c' cs) (hf:R w f cs) (h1:∀ u∈cs,u.oneCell'=true)
  (hbytes:(n + 1) * bytes<=140737488355328) (h63:n + 1<=9223372036854775807) (hbase:base<=w.heap.size)
  (hR:∀ w1 A1 n1 c1 xs,OV w base E size A1 n1 c1 xs->w.grownBy w1 (Value.slice A1 n1 c1).ownBlock->∀ f cs,R w f cs->R w1 f cs)
  (h:∀ A1 c1 w1,OS (R w1) w1 base E size A1 (n + 1) c1 (l ++ [f])->Below base w w1->w.grownBy w1 (Value.slice A n c).ownBlock ->
   ((Value.slice A1 (n + 1) c1).ownBlock=(Value.slice A n c).ownBlock\/(Value.slice A1 (n + 1) c1).ownBlock=some w.heap.size)->wpList P ops Q rest (a.put o.dst (.slice A1 (n + 1) c1)) w1) :
  wpList P ops Q (o :: rest) a w:=by
 obtain ⟨xs,k1,k2⟩:=hown;refine b_ ht hgd s x ho hs hx base k1 hr h1 hbytes h63 hbase fun A1 c1 w1 j1 j2 j3=>?_
 have hi:=hR w1 A n c xs k1 j2;exact h A1 c1 w1 ⟨_,j1,Rows.append (k2.imp hi) (Rows.one (hi _ _ hf) (by have:=hr.len; omega))⟩ (bQ j2 k1.lt hbase) j2 j3
theorem RV.new (w:World) (e:TypeId) {cs:List Value} (hl:cs.length=size):RV (w.alloc (.cells cs.toArray e)) (w.heap.size + 1) size (some ⟨w.heap.size,0,none⟩) 1 1 cs:=by
 refine (OV.new (base:=0) (e:=e) (size:=size) w cs 1 (by omega) (by omega) (Nat.zero_le _)).rv.more (by simp)
end
structure WB (w:World) (base:Nat) (A:Option Addr) (n c:Nat):Prop where
 le:n<=c
 cap:c<=9223372036854775807
 nil:A=none->n=0/\c=0
 at_:0 < c->∃ g cur,A=some ⟨g,0,none⟩/\base<=g/\ao w g 5 cur/\c<=cur.size/\∀ i,i < n->∃ x:UInt8,cur[i]?=some (bv x)
theorem WB.more {w:World} {base base' n c:Nat} {A:Option Addr} (h:WB w base A n c) (hb:base'<=base):WB w base' A n c :=
 ⟨h.le,h.cap,h.nil,fun hc=>by obtain ⟨g,cur,e,hg,r⟩:=h.at_ hc; exact ⟨g,cur,e,by omega,r⟩⟩
theorem OB.wb {w:World} {base n c:Nat} {A:Option Addr} {l:List UInt8} (h:OB w base A n c l):WB w base A n c:=by
 refine ⟨h.rb.le,h.rb.cap,h.rb.nil,fun hc=>?_⟩;have hl:=h.rb.len;rcases h.2 with ⟨hv,_⟩ | ⟨g,cap,cur,hv,hb,hg,hnc,hcm,hcs,ht⟩
 ·injection hv with _ _ h3; omega
 ·injection hv with h1 h2 h3
  subst h1 h3;refine ⟨g,cur,rfl,hb,hg,by omega,fun i hi=>⟨l.getD i 0,?_⟩⟩;have:(l.map bv)[i]?=cur.toList[i]?:=by rw [<- ht,List.getElem?_take,if_pos (by omega)]
  rw [<- Array.getElem?_toList,<- this];simp [List.getD,List.getElem?_eq_getElem (show i < l.length by omega)]
theorem WB.cut {w:World} {base n c k:Nat} {A:Option Addr} (h:WB w base A n c) (hk:k<=n):WB w base A k k :=
 ⟨Nat.le_refl _,Nat.le_trans (Nat.le_trans hk h.le) h.cap,fun e=>by have:=h.nil e; omega,fun hc=>by
  have:=h.le;obtain ⟨g,cur,e,hg,hb,hs,hx⟩:=h.at_ (by omega);exact ⟨g,cur,e,hg,hb,by omega,fun i hi=>hx i (by omega)⟩⟩
structure OW (w:World) (base:Nat) (A:Option Addr) (n c:Nat) (l:List UInt8):Prop where
 len:l.length=n
 le:n<=c
 cap:c<=9223372036854775807
 nil:A=none->n=0/\c=0
 at_:0 < c->∃ g cur,A=some ⟨g,0,none⟩/\base<=g/\ao w g 5 cur/\c<=cur.size/\cur.toList.take n=l.map bv
section
variable {w w':World} {base base' n c:Nat} {A:Option Addr} {l:List UInt8}
theorem OB.ow (h:OB w base A n c l):OW w base A n c l:=by
 refine ⟨h.rb.len,h.rb.le,h.rb.cap,h.rb.nil,fun hc=>?_⟩;rcases h.2 with ⟨hv,_⟩ | ⟨g,cap,cur,hv,hb,hg,hnc,hcm,hcs,ht⟩
 ·injection hv with _ _ h3; omega
 ·injection hv with h1 h2 h3
  subst h1 h3;exact ⟨g,cur,rfl,hb,hg,by omega,by simpa using ht⟩
theorem OW.rb (h:OW w base A n c l):RB w w.heap.size A n c l:=by
 have hl:=h.len;have hle:=h.le;refine ⟨hl,hle,h.cap,h.nil,fun hn=>?_⟩;obtain ⟨g,cur,rfl,hg,hb,hs,ht⟩:=h.at_ (by omega);refine ⟨g,0,rfl,hb.lt,fun i hi=>?_⟩;rw [Nat.zero_add,hb.cell i];have:(l.map bv)[i]?=cur.toList[i]?:=by rw [<- ht,List.getElem?_take,if_pos (by omega)]
 rw [<- Array.getElem?_toList,<- this];simp [List.getD,List.getElem?_eq_getElem (show i < l.length by omega),bv]
theorem OW.cut (h:OW w base A n c l) {k:Nat} (hk:k<=n):OW w base A k k (l.take k):=by
 have hle:=h.le;have hcap:=h.cap;refine ⟨by rw [List.length_take,h.len]; omega,Nat.le_refl _,by omega,fun e=>by have:=h.nil e; omega,fun hc=>?_⟩;obtain ⟨g,cur,e,hg,hb,hs,ht⟩:=h.at_ (by omega);refine ⟨g,cur,e,hg,hb,by omega,?_⟩;rw [List.map_take,<- ht,List.take_take,Nat.min_eq_left hk]
theorem OW.more (h:OW w base A n c l) (hb:base'<=base):OW w base' A n c l :=
 ⟨h.len,h.le,h.cap,h.nil,fun hc=>by obtain ⟨g,cur,e,hg,r⟩:=h.at_ hc; exact ⟨g,cur,e,by omega,r⟩⟩
theorem OW.below (h:OW w base A n c l) (hb:Below w.heap.size w w'):OW w' base A n c l :=
 ⟨h.len,h.le,h.cap,h.nil,fun hc=>by obtain ⟨g,cur,e,hg,k,r⟩:=h.at_ hc; exact ⟨g,cur,e,hg,k.later hb,r⟩⟩
theorem OW.grown {row:Option Nat} (h:OW w base A n c l) (hg:w.grownBy w' row) (hne:∀ g cur,ao w g 5 cur->some g≠row):OW w' base A n c l :=
 ⟨h.len,h.le,h.cap,h.nil,fun hc=>by obtain ⟨g,cur,e,hb,k,r⟩:=h.at_ hc; exact ⟨g,cur,e,hb,k.grown hg (hne g cur k),r⟩⟩
theorem OW.beside {base' e size m c':Nat} {A':Option Addr} {xs:List Value} (h:OW w base A n c l) (h':OV w base' e size A' m c' xs) (hne:e≠5) (hg:w.grownBy w' (Value.slice A' m c').ownBlock):OW w' base A n c l :=
 h.grown hg fun _ _ hb he=>bE h' hb hne he.symm
end
def Da (e:aD.En) (A:Option Addr) (n c:Nat):List Value:=[.int .i64 e.index,.int .i64 e.sub,.string (T e.name),.int .i64 e.type,.int .i64 e.access,.bool e.map,.bool e.store,.int .i64 e.max,.int .i64 e.low,.int .i64 e.high,.slice A n c]
def gO (e:aD.En) (A:Option Addr) (n c:Nat):Value:=.agg #[.int .i64 e.index,.int .i64 e.sub,.string (T e.name),.int .i64 e.type,.int .i64 e.access,.bool e.map,.bool e.store,.int .i64 e.max,.int .i64 e.low,.int .i64 e.high,.slice A n c]
theorem ao.aA {w:World} {g:Nat} {t:TypeId} {x0 x1 x2 x3 x4 x5 x6 x7 x8 x9 lL:Value} (h:ao w g t #[x0,x1,x2,x3,x4,x5,x6,x7,x8,x9,lL]):(w.cell? ⟨g,0,none⟩=some x0/\w.cell? ⟨g,1,none⟩=some x1/\w.cell? ⟨g,2,none⟩=some x2/\w.cell? ⟨g,3,none⟩=some x3/\w.cell? ⟨g,4,none⟩=some x4/\w.cell? ⟨g,5,none⟩=some x5/\w.cell? ⟨g,6,none⟩=some x6/\w.cell? ⟨g,7,none⟩=some x7/\w.cell? ⟨g,8,none⟩=some x8/\w.cell? ⟨g,9,none⟩=some x9/\w.cell? ⟨g,10,none⟩=some lL)/\(w.frozen? ⟨g,0,none⟩=false/\w.frozen? ⟨g,1,none⟩=false/\w.frozen? ⟨g,2,none⟩=false/\w.frozen? ⟨g,3,none⟩=false/\w.frozen? ⟨g,4,none⟩=false/\w.frozen? ⟨g,5,none⟩=false/\w.frozen? ⟨g,6,none⟩=false/\w.frozen? ⟨g,7,none⟩=false/\w.frozen? ⟨g,8,none⟩=false/\w.frozen? ⟨g,9,none⟩=false/\w.frozen? ⟨g,10,none⟩=false):=⟨⟨h.cell 0,h.cell 1,h.cell 2,h.cell 3,h.cell 4,h.cell 5,h.cell 6,h.cell 7,h.cell 8,h.cell 9,h.cell 10⟩,h.frozen 0,h.frozen 1,h.frozen 2,h.frozen 3,h.frozen 4,h.frozen 5,h.frozen 6,h.frozen 7,h.frozen 8,h.frozen 9,h.frozen 10⟩
theorem ao.zd {w:World} {g:Nat} {t:TypeId} {x0 x1 x2 x3 x4 x5 x6 x7 x8 x9 lL:Value} (h:ao w g t #[x0,x1,x2,x3,x4,x5,x6,x7,x8,x9,lL]) (y0 y1 y2 y3 y4 y5 y6 y7 y8 y9 nP:Value):ao (World.setCell (World.setCell (World.setCell (World.setCell (World.setCell (World.setCell (World.setCell (World.setCell (World.setCell (World.setCell (World.setCell w ⟨g,0,none⟩ y0) ⟨g,1,none⟩ y1) ⟨g,2,none⟩ y2) ⟨g,3,none⟩ y3) ⟨g,4,none⟩ y4) ⟨g,5,none⟩ y5) ⟨g,6,none⟩ y6) ⟨g,7,none⟩ y7) ⟨g,8,none⟩ y8) ⟨g,9,none⟩ y9) ⟨g,10,none⟩ nP) g t #[y0,y1,y2,y3,y4,y5,y6,y7,y8,y9,nP]:=by
 have h0:ao _ g t #[y0,x1,x2,x3,x4,x5,x6,x7,x8,x9,lL]:=h.aJ 0 y0;have h1:ao _ g t #[y0,y1,x2,x3,x4,x5,x6,x7,x8,x9,lL]:=h0.aJ 1 y1;have h2:ao _ g t #[y0,y1,y2,x3,x4,x5,x6,x7,x8,x9,lL]:=h1.aJ 2 y2;have h3:ao _ g t #[y0,y1,y2,y3,x4,x5,x6,x7,x8,x9,lL]:=h2.aJ 3 y3;have h4:ao _ g t #[y0,y1,y2,y3,y4,x5,x6,x7,x8,x9,lL]:=h3.aJ 4 y4;have h5:ao _ g t #[y0,y1,y2,y3,y4,y5,x6,x7,x8,x9,lL]:=h4.aJ 5 y5;have h6:ao _ g t #[y0,y1,y2,y3,y4,y5,y6,x7,x8,x9,lL]:=h5.aJ 6 y6;have h7:ao _ g t #[y0,y1,y2,y3,y4,y5,y6,y7,x8,x9,lL]:=h6.aJ 7 y7;have h8:ao _ g t #[y0,y1,y2,y3,y4,y5,y6,y7,y8,x9,lL]:=h7.aJ 8 y8;have h9:ao _ g t #[y0,y1,y2,y3,y4,y5,y6,y7,y8,y9,lL]:=h8.aJ 9 y9;have h10:ao _ g t #[y0,y1,y2,y3,y4,y5,y6,y7,y8,y9,nP]:=h9.aJ 10 nP;exact h10
theorem mI {B:Nat} {a w:World} {g:Nat} (h:Below B a w) (hg:B<=g) (y0 y1 y2 y3 y4 y5 y6 y7 y8 y9 nP:Value):Below B a (World.setCell (World.setCell (World.setCell (World.setCell (World.setCell (World.setCell (World.setCell (World.setCell (World.setCell (World.setCell (World.setCell w ⟨g,0,none⟩ y0) ⟨g,1,none⟩ y1) ⟨g,2,none⟩ y2) ⟨g,3,none⟩ y3) ⟨g,4,none⟩ y4) ⟨g,5,none⟩ y5) ⟨g,6,none⟩ y6) ⟨g,7,none⟩ y7) ⟨g,8,none⟩ y8) ⟨g,9,none⟩ y9) ⟨g,10,none⟩ nP):=(((((((((((h.setCell (p:=⟨g,0,none⟩) hg y0).setCell (p:=⟨g,1,none⟩) hg y1).setCell (p:=⟨g,2,none⟩) hg y2).setCell (p:=⟨g,3,none⟩) hg y3).setCell (p:=⟨g,4,none⟩) hg y4).setCell (p:=⟨g,5,none⟩) hg y5).setCell (p:=⟨g,6,none⟩) hg y6).setCell (p:=⟨g,7,none⟩) hg y7).setCell (p:=⟨g,8,none⟩) hg y8).setCell (p:=⟨g,9,none⟩) hg y9).setCell (p:=⟨g,10,none⟩) hg nP)
theorem OB.Ll {w:World} {base g n c:Nat} {A:Option Addr} {l:List UInt8} (h:OB w base A n c l) (hg:g < base) (y0 y1 y2 y3 y4 y5 y6 y7 y8 y9 nP:Value):OB (World.setCell (World.setCell (World.setCell (World.setCell (World.setCell (World.setCell (World.setCell (World.setCell (World.setCell (World.setCell (World.setCell w ⟨g,0,none⟩ y0) ⟨g,1,none⟩ y1) ⟨g,2,none⟩ y2) ⟨g,3,none⟩ y3) ⟨g,4,none⟩ y4) ⟨g,5,none⟩ y5) ⟨g,6,none⟩ y6) ⟨g,7,none⟩ y7) ⟨g,8,none⟩ y8) ⟨g,9,none⟩ y9) ⟨g,10,none⟩ nP) base A n c l:=(((((((((((h.cR hg 0 y0).cR hg 1 y1).cR hg 2 y2).cR hg 3 y3).cR hg 4 y4).cR hg 5 y5).cR hg 6 y6).cR hg 7 y7).cR hg 8 y8).cR hg 9 y9).cR hg 10 nP)
theorem P_:ET Tryz.prog 28 27 11 104 (.agg #[.int .i64 0,.int .i64 0,.string ⟨#[]⟩,.int .i64 0,.int .i64 0,.bool false,.bool false,.int .i64 0,.int .i64 0,.int .i64 0,.slice none 0 0]):=⟨Tryz.underlying28,info_parts (by kernel_rfl),rfl,by decide⟩
theorem P6:ET Tryz.prog 129 25 1 24 (.slice none 0 0):=⟨Tryz.underlying129,info_parts (by kernel_rfl),rfl,by decide⟩
def MT (w:World) (F:Nat->Prop) (e:aD.En) (cs:List Value):Prop:=∃ A n c,cs=Da e A n c/\iX w F A n c e.dflt
def Ov (w:World) (F:Nat->Prop) (b:List UInt8) (cs:List Value):Prop:=∃ A n c,cs=[.slice A n c]/\iX w F A n c b
section
variable {F G:Nat->Prop} {w w':World} {e:aD.En} {b:List UInt8} {cs:List Value}
theorem MT.mv (h:MT w F e cs) (hm:Mv G w w') (hd:∀ b,b < w.heap.size->F b->¬ G b):MT w' F e cs:=by
 obtain ⟨A,n,c,h1,h2⟩:=h;exact ⟨A,n,c,h1,h2.mv hm hd⟩
theorem MT.mono (h:MT w F e cs) (hi:∀ b,b < w.heap.size->F b->G b):MT w G e cs:=by
 obtain ⟨A,n,c,h1,h2⟩:=h;exact ⟨A,n,c,h1,h2.mono hi⟩
theorem Ov.mv (h:Ov w F b cs) (hm:Mv G w w') (hd:∀ b,b < w.heap.size->F b->¬ G b):Ov w' F b cs:=by
 obtain ⟨A,n,c,h1,h2⟩:=h;exact ⟨A,n,c,h1,h2.mv hm hd⟩
theorem Ov.mono (h:Ov w F b cs) (hi:∀ b,b < w.heap.size->F b->G b):Ov w G b cs:=by
 obtain ⟨A,n,c,h1,h2⟩:=h;exact ⟨A,n,c,h1,h2.mono hi⟩
end
def Fx (F:Nat->Prop) (g gv:Nat):Nat->Prop:=fun b=>F b/\b≠g/\b≠gv
structure cM (t:TypeId) (w:World) (F:Nat->Prop) (g gv:Nat) (lA:Option Addr) (lc:Nat) (vA:Option Addr) (vc:Nat) (xs vs:List Value) (D:Dc.aZ):Prop where
 fg:F g
 ne:g≠gv
 aP:ao w g t #[.slice lA D.l.length lc,.slice vA D.l.length vc]
 row:ij w (Fx F g gv) 11 lA D.l.length lc xs
 rows:Rows (MT w (Fx F g gv)) 11 D.l xs
 own:OV w 0 25 1 vA D.l.length vc vs
 at_:∀ k,(Value.slice vA D.l.length vc).ownBlock=some k->k=gv/\F gv
 vals:Rows (Ov w (Fx F g gv)) 1 D.v vs
 len:D.v.length=D.l.length
 ord:Dc.Ord D.l
 few:D.l.length<=96
 right:∀ e∈D.l,aD.cD e=0
section
variable {t:TypeId} {F G:Nat->Prop} {w w':World} {g gv lc vc:Nat} {lA vA:Option Addr} {xs vs:List Value} {D:Dc.aZ}
theorem cM.mv (h:cM t w F g gv lA lc vA vc xs vs D) (hm:Mv G w w') (hd:∀ b,b < w.heap.size->F b->¬ G b):cM t w' F g gv lA lc vA vc xs vs D :=
 have hx:∀ b,b < w.heap.size->Fx F g gv b->¬ G b:=fun b hb hf=>hd b hb hf.1
 {fg:=h.fg,ne:=h.ne,aP:=h.aP.mv hm (hd g h.aP.lt h.fg),row:=h.row.mv hm hx,rows:=h.rows.imp fun _ _ k=>k.mv hm hx
  own:=by
   refine ⟨h.own.1,?_⟩;rcases h.own.2 with h2 | ⟨k,cap,cur,hv,hg,hh,r⟩
   ·exact .inl h2
   ·have hk:=h.at_ k (by rw [hv]; rfl)
    have hlt:k < w.heap.size:=(Array.getElem?_eq_some_iff.1 hh).1;exact .inr ⟨k,cap,cur,hv,hg,(hm.block k hlt (hd k hlt (by rw [hk.1]; exact hk.2))).trans hh,r⟩
  at_:=h.at_,vals:=h.vals.imp fun _ _ k=>k.mv hm hx,len:=h.len,ord:=h.ord,few:=h.few,right:=h.right }
theorem cM.below (h:cM t w F g gv lA lc vA vc xs vs D) (hb:Below w.heap.size w w'):cM t w' F g gv lA lc vA vc xs vs D:=h.mv (Mv.aq hb fun _=>False) fun _ _ _ h=>h
theorem cM.mono (h:cM t w F g gv lA lc vA vc xs vs D) (hi:∀ b,b < w.heap.size->F b->G b):cM t w G g gv lA lc vA vc xs vs D :=
 have hx:∀ b,b < w.heap.size->Fx F g gv b->Fx G g gv b:=fun b hb hf=>⟨hi b hb hf.1,hf.2⟩
 {fg:=hi g h.aP.lt h.fg,ne:=h.ne,aP:=h.aP,row:=h.row.mono hx,rows:=h.rows.imp fun _ _ k=>k.mono hx,own:=h.own
  at_:=fun k hk=>⟨(h.at_ k hk).1,hi gv (by have:=(h.own.lt k hk).2; rw [(h.at_ k hk).1] at this; exact this) (h.at_ k hk).2⟩
  vals:=h.vals.imp fun _ _ k=>k.mono hx,len:=h.len,ord:=h.ord,few:=h.few,right:=h.right }
theorem Rows.JH {α:Type} {R:α->List Value->Prop} {fs:List α} {xs:List Value} (h:Rows R 1 fs xs) {k:Nat} {f:α} {u:Value} (hk:k < fs.length) (hf:R f [u]):Rows R 1 (fs.set k f) (xs.set k u):=by
 have hl:=h.len;refine ⟨by rw [List.length_set,List.length_set]; exact hl,fun i f' hi=>?_⟩;rw [List.getElem?_set] at hi;split at hi
 ·rename_i e
  subst e
  first | (rw [if_pos hk] at hi) | skip
  injection hi with hi
  subst hi;have:((xs.set k u).drop (k * 1)).take 1=[u]:=by
   have hlt:k < (xs.set k u).length:=by rw [List.length_set]; omega
   rw [Nat.mul_one,List.drop_eq_getElem_cons hlt,List.take_succ_cons,List.take_zero,List.getElem_set_self]
  rw [this];exact hf
 ·rename_i e
  have h1:=h.2 i f' hi;have:((xs.set k u).drop (i * 1)).take 1=(xs.drop (i * 1)).take 1:=by
   apply List.ext_getElem?
   intro j;rw [List.getElem?_take,List.getElem?_take];split
   ·rw [List.getElem?_drop,List.getElem?_drop,List.getElem?_set_ne (by omega)]
   ·rfl
  rw [this];exact h1
theorem cM.put {w1:World} {k n c:Nat} {A:Option Addr} {b:List UInt8} (h:cM t w F g gv lA lc vA vc xs vs D) (hk:k < D.l.length) (hb:Below w.heap.size w w1) (ho:OB w1 w.heap.size A n c b) :
  cM t (w1.setCell ⟨gv,k,none⟩ (.slice A n c)) (fun q=>F q\/(w.heap.size<=q/\q < w1.heap.size)) g gv lA lc vA vc xs (vs.set k (.slice A n c)) ⟨D.l,D.v.set k b⟩:=by
 have hA:∃ q,vA=some ⟨q,0,none⟩/\q < w.heap.size:=by
  obtain ⟨q,e,_,hq⟩:=h.own.head (by omega);exact ⟨q,e,hq⟩
 obtain ⟨q,rfl,hq⟩:=hA;obtain ⟨rfl,hFq⟩:=h.at_ q rfl;have hgl:=h.aP.lt;have h1:=(h.below hb).mono (G:=fun q=>F q\/(w.heap.size<=q/\q < w1.heap.size)) fun _ _ hf=>.inl hf
 have hm:Mv (fun b=>b=q) w1 (w1.setCell ⟨q,k,none⟩ (.slice A n c)):=Mv.setCell w1 ⟨q,k,none⟩ _;have hx:∀ b,b < w1.heap.size->Fx (fun q=>F q\/(w.heap.size<=q/\q < w1.heap.size)) g q b->¬ b=q:=fun b _ hf=>hf.2.2
 refine { fg:=h1.fg,ne:=h1.ne,aP:=h1.aP.mv hm h1.ne,row:=h1.row.mv hm hx,rows:=h1.rows.imp fun _ _ k=>k.mv hm hx,own:=(h1.own.set k (.slice A n c)).1,at_:=h1.at_,vals:=?_,len:=by rw [List.length_set]; exact h1.len,ord:=h1.ord,few:=h1.few,right:=h1.right };refine Rows.JH (h1.vals.imp fun _ _ k=>k.mv hm hx) (by rw [h.len]; exact hk) ⟨A,n,c,rfl,?_⟩;have hr:iX w1 (Fx (fun q=>F q\/(w.heap.size<=q/\q < w1.heap.size)) g q) A n c b:=ho.Lx fun j hj=>by
  have h5:=ho.lt j hj;exact ⟨.inr h5,by omega,by omega⟩
 exact hr.mv hm hx
theorem cM.two (h:cM t w F g gv lA lc vA vc xs vs D):w.cell? ⟨g,0,none⟩=some (.slice lA D.l.length lc)/\w.cell? ⟨g,1,none⟩=some (.slice vA D.l.length vc):=⟨h.aP.cell 0,h.aP.cell 1⟩
theorem cM.vt (h:cM t w F g gv lA lc vA vc xs vs D):D.l.length<=lc/\lc<=9223372036854775807:=⟨h.row.le,h.row.cap⟩
theorem cM.entry (h:cM t w F g gv lA lc vA vc xs vs D) {i:Nat} (hi:i < D.l.length):∃ b o A n c,lA=some ⟨b,o,none⟩/\b < w.heap.size/\RB w w.heap.size A n c (D.l.getD i Dc.aI).dflt /\
  ∀ j u,(Da (D.l.getD i Dc.aI) A n c)[j]?=some u->w.cell? ⟨b,o + i * 11 + j,none⟩=some u:=by
 obtain ⟨b,o,rfl,hF,hb,hc⟩:=h.row.at_ (by omega);have hf:D.l[i]?=some (D.l.getD i Dc.aI):=by simp [List.getD,List.getElem?_eq_getElem hi]
 obtain ⟨A,n,c,e,hr⟩:=h.rows.2 i _ hf;refine ⟨b,o,A,n,c,rfl,hb,hr.rb,fun j u hu=>?_⟩;rw [<- e,List.getElem?_take] at hu;split at hu
 ·rw [List.getElem?_drop] at hu
  rw [Nat.add_assoc];exact hc _ u hu
 ·cases hu
theorem cM.value (h:cM t w F g gv lA lc vA vc xs vs D) {i:Nat} (hi:i < D.l.length):∃ A n c,vA=some ⟨gv,0,none⟩/\F gv/\gv < w.heap.size/\RB w w.heap.size A n c (D.v.getD i [])/\w.cell? ⟨gv,i,none⟩=some (.slice A n c)/\w.frozen? ⟨gv,i,none⟩=false:=by
 obtain ⟨q,rfl,_,hq⟩:=h.own.head (by omega);obtain ⟨e1,e2⟩:=h.at_ q (by rfl);subst e1;have hi':i < D.v.length:=by rw [h.len]; exact hi
 have hf:D.v[i]?=some (D.v.getD i []):=by simp [List.getD,List.getElem?_eq_getElem hi']
 obtain ⟨A,n,c,e,hr⟩:=h.vals.2 i _ hf;refine ⟨A,n,c,rfl,e2,hq,hr.rb,?_,h.own.free i⟩;obtain ⟨b,o,e3,_,hc⟩:=h.own.rv.at_ (by omega);injection e3 with e3
 injection e3 with e3 e4
 subst e3 e4;have hu:vs[i]?=some (.slice A n c):=by
  have h0:((vs.drop (i * 1)).take 1)[0]?=some (Value.slice A n c):=by rw [e]; rfl
  rw [List.getElem?_take,List.getElem?_drop] at h0;simpa using h0
 have:=hc i _ hu
 rwa [Nat.zero_add] at this
end
theorem py (e e':aD.En) (A A':Option Addr) (n c n' c':Nat) (w:World):Calls Tryz.prog 78 #[gO e A n c,gO e' A' n' c'] w fun x w'=>x=.returned (.bool (aD.mb e e'))/\Below w.heap.size w w':=by
 obtain ⟨ix,sb,nm,ty,ac,mp,st,mx,lo,hi,df⟩:=e;unfold gO;dsimp only;obtain ⟨ix',sb',Si,ty',Sj,mp',st',mx',lo',hi',Sk⟩:=e';dsimp only
 by_cases h1:ix=ix'
 ·subst h1
  have hv:aD.mb ⟨ix,sb,nm,ty,ac,mp,st,mx,lo,hi,df⟩ ⟨ix,sb',Si,ty',Sj,mp',st',mx',lo',hi',Sk⟩=decide (sb < sb'):=if_pos rfl;rw [hv];have e1:(ix != ix)=false:=by simp
  have e2:(ix == ix)=true:=by simp
  have e3:decide (ix < ix)=false:=decide_eq_false (by omega);clear hv
  by_cases h2:sb < sb'
  all_goals
   go_enter Tryz.func78,Tryz.ntmps78
   go_wp2_with fail
   go_ret
   exact ⟨bI (by simp [h2] <;> omega),bZ _ _ _⟩
 ·have hv:aD.mb ⟨ix,sb,nm,ty,ac,mp,st,mx,lo,hi,df⟩ ⟨ix',sb',Si,ty',Sj,mp',st',mx',lo',hi',Sk⟩=decide (ix < ix'):=if_neg h1
  rw [hv];have e1:(ix != ix')=true:=by simpa using h1
  have e2:(ix == ix')=false:=beq_false_of_ne h1;clear hv
  by_cases h2:ix < ix'
  ·have e3:decide (ix < ix')=true:=decide_eq_true h2
   clear h1;go_enter Tryz.func78,Tryz.ntmps78
   go_wp2_with fail
   go_ret
   exact ⟨bI (by simp [h2]),bZ _ _ _⟩
  ·have e3:decide (ix < ix')=false:=decide_eq_false h2
   clear h1;go_enter Tryz.func78,Tryz.ntmps78
   go_wp2_with fail
   go_ret
   exact ⟨bI (by simp [h2]),bZ _ _ _⟩
end
end Go.Proofs.YtijegngfclkdaaaGreatDoor
