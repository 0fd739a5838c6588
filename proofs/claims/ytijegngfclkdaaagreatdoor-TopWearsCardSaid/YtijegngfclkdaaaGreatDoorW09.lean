/-
  Pieces of the proof: part 9 of 54.
  Conditions: none.
-/
import Derived.Test.YtijegngfclkdaaaGreatDoorW08
set_option linter.unusedVariables false
set_option linter.unusedSimpArgs false
set_option maxHeartbeats 100000000
set_option maxRecDepth 100000
namespace Go.Proofs.YtijegngfclkdaaaGreatDoor.Ev
open Go
variable {σ:Type}
theorem Then.trans {X:Cx σ} {O:Outside σ} {E E1:Env} {s s1 s2:St σ} {w w1 w2:World} {F2:Fr} {a2:Act} (h1:s.c≤s1.c) (h2:s1.c≤s2.c) (R1:Rel X O E1 s1.S.get s1.g w1) (m:Mvd E s.S.get s.c w E1 s1.S.get s1.c w1) (t:Then X O E1 s1 w1 F2 s2 a2 w2):Then X O E s w F2 s2 a2 w2:=by
 obtain ⟨E2,a,b,c⟩:=t;exact ⟨E2,a,b,m.trans c h1 h2 fun id hi=>by
  cases e:s1.S.get id with
  | none=>exact absurd e hi
  | some o=>exact (R1.ob id o e).1⟩
theorem evOps_c {X:Cx σ} {call:FuncId→List AV→St σ→Option (AV×St σ)} (hc:∀ f args s v s',call f args s=some (v,s')→X.fn f≠none→s.c≤s'.c) {ops:List Oper}:∀ {l:List Oper} {F F':Fr} {s s':St σ},evOps X call ops l F s=some (F',s')→s.c≤s'.c
 | [],F,F',s,s',h=>by simp only [evOps] at h; injection h with h; injection h with _ h; rw [h]; exact Nat.le_refl _
 | o :: l,F,F',s,s',h=>by
  simp only [evOps,Option.bind_eq_some_iff] at h;obtain ⟨⟨F1,s1⟩,h1,h2⟩:=h;exact Nat.le_trans (ev1_c hc h1) (evOps_c hc h2)
theorem drawGo_c {X:Cx σ} {call:FuncId→List AV→St σ→Option (AV×St σ)} (hc:∀ f args s v s',call f args s=some (v,s')→X.fn f≠none→s.c≤s'.c) {ops:List Oper} {ms:List Nat} {S0:Tr Ob}:∀ {π:List Nat} {es:List (Nat×Tr Ob)} {F F':Fr} {s s':St σ},drawGo X call ops ms S0 π es F s=some (F',s')→s.c≤s'.c
 | [],es,F,F',s,s',h=>by simp only [drawGo] at h; injection h with h; injection h with _ h; rw [h]; exact Nat.le_refl _
 | i :: π,es,F,F',s,s',h=>by
  simp only [drawGo,Option.bind_eq_some_iff] at h;obtain ⟨o,ho,b,hb,h⟩:=h;split at h
  ·exact drawGo_c hc h
  ·split at h
   ·rw [Option.bind_eq_some_iff] at h
    obtain ⟨v,hv,h⟩:=h;exact drawGo_c hc h
   ·rw [Option.bind_eq_some_iff] at h
    obtain ⟨⟨v,ob⟩,hv,h⟩:=h;refine Nat.le_trans ?_ (drawGo_c hc h);cases ob <;> simp [newS]
   ·rw [Option.bind_eq_some_iff] at h
    obtain ⟨⟨v,s1⟩,hv,h⟩:=h;exact Nat.le_trans (ope_c hc hv) (drawGo_c hc h)
theorem CallOK.c {X:Cx σ} {O:Outside σ} {call:FuncId→List AV→St σ→Option (AV×St σ)} (hc:CallOK X O call):∀ f args s v s',call f args s=some (v,s')→X.fn f≠none→s.c≤s'.c:=fun f args s v s' h hn=>(hc f args s v s' h hn).1
theorem evOps_R {X:Cx σ} (hX:XOK X) {O:Outside σ} {call:FuncId→List AV→St σ→Option (AV×St σ)} (hc:CallOK X O call) {ops:Array Oper} {Q:Exit→Act→World→Prop}:∀ (n k:Nat) {F F':Fr} {s s':St σ} {E:Env} {w:World} {a:Act},n + k=ops.size→evOps X call ops.toList (ops.toList.drop k) F s=some (F',s')→RF E F a→Rel X O E s.S.get s.g w →
  (∀ id,s.c≤id→id < s'.c→¬ E.D id)→(∀ a' w',Then X O E s w F' s' a' w'→Q .normal a' w')→wpOps X.P ops Q (List.range' k n) a w
 | 0,k,F,F',s,s',E,w,a,hk,h,r,R,hf,hQ=>by
  rw [List.drop_of_length_le (by simp; omega)] at h;simp only [evOps] at h;injection h with h
  injection h with h1 h2
  subst h1 h2;exact hQ a w ⟨E,r,R,Mvd.refl _ _ _ _⟩
 | n + 1,k,F,F',s,s',E,w,a,hk,h,r,R,hf,hQ=>by
  have hlt:k < ops.size:=by omega
  have hd:ops.toList.drop k=ops[k] :: ops.toList.drop (k + 1):=by
   rw [List.drop_eq_getElem_cons (by simpa using hlt)];simp
  rw [hd] at h;simp only [evOps,Option.bind_eq_some_iff] at h;obtain ⟨⟨F1,s1⟩,h1,h2⟩:=h;dsimp only at h2;have c1:=ev1_c hc.c h1;have c2:=evOps_c hc.c h2;rw [List.range'_succ,wpOps_cons];unfold wpOp;rw [Array.getElem?_eq_getElem hlt];dsimp only;exact ev1_R hX hc h1 r R (fun id a b=>hf id a (by omega)) _ Q fun a' w' ⟨E1,t1,t2,t3⟩ =>
   evOps_R hX hc n (k + 1) (by omega) h2 t1 t2 (fun id a b hD=>by
    rcases t3.fresh id hD with h | ⟨_,h⟩
    ·exact hf id (by omega) b h
    ·omega) fun a'' w'' t=>hQ a'' w'' (Then.trans c1 c2 t2 t3 t)
theorem drawGo_R {X:Cx σ} (hX:XOK X) {O:Outside σ} {call:FuncId→List AV→St σ→Option (AV×St σ)} (hc:CallOK X O call) {ops:Array Oper} {p:List Nat×List Nat} (hp:planB X ops.toList p=true) {Q:Exit→Act→World→Prop} {F F':Fr} {s s':St σ} {E:Env} {w:World} {a:Act}
  (h:drawGo X call ops.toList p.1 s.S p.2 [] F s=some (F',s')) (r:RF E F a) (R:Rel X O E s.S.get s.g w) (hf:∀ id,s.c≤id→id < s'.c→¬ E.D id) (hQ:∀ a' w',Then X O E s w F' s' a' w'→Q .normal a' w') :
  wpAny X.P .any ops Q ops.size (Array.replicate ops.size false) a { w with drawn:=w.drawn + 1 }:=by
 obtain ⟨p1,p2⟩:=p;obtain ⟨e1,P⟩:=planB_spec hp;dsimp only at e1 P h;subst e1;obtain ⟨tr,t1,t2,t3,t4⟩:=drawGo_run h;have R':Rel X O E s.S.get s.g { w with drawn:=w.drawn + 1 }:=R.drawn rfl;have C:DC X O call ops.toList p2 tr E { w with drawn:=w.drawn + 1 } a:=⟨hX,hc,P,by rw [t1],fun p i hp=>by rw [t1]; exact t4 p i hp,by rw [t1]; exact r,by rw [t1]; exact R',by rw [t1,t3]; exact hf⟩;have c0:=C.le (Nat.zero_le _) (Nat.le_refl _);refine draw_any C (fun a' w' ht=>?_) ops.size _ a _ 0 s.S.get E ?_ ?_
 ·rw [t1,t2,t3] at ht
  obtain ⟨E',k1,k2,k3⟩:=ht;exact hQ a' w' ⟨E',k1,k2,k3.of_heap rfl⟩
 ·have nl:∀ i,¬ (Array.replicate ops.size false).getD i false=true:=fun i=>by
   simp only [Array.getD_eq_getD_getElem?,Array.getElem?_replicate];split <;> simp
  refine ⟨by simp,fun j o _ hL=>absurd hL (nl j),r.1,by rw [t1]; exact r.2.1,Nat.zero_le _,.inl rfl,fun p i hp=>absurd hp (by omega),fun p i _ _ hL=>absurd hL (nl i),fun id o ho=>by rw [t1] at ho; exact ho,fun r i id o _ _ hL=>absurd hL (nl i),fun id hi=>.inl (by rw [t1]; exact hi),fun id hD=>.inl hD,fun id hi=>?_,by rw [t1]; exact R',?_,fun p i o t av _ _ _ hL=>absurd hL (nl i),fun t av _ hg=>by rw [t1] at hg; exact r.2.2 t av hg⟩
  ·rw [t1] at hi ⊢
   rw [t3];intro ⟨a1,a2⟩;cases e:s.S.get id with
   | none=>exact hi e
   | some o=>exact hf id a1 a2 (R.ob id o e).1
  ·rw [t1] at c0 ⊢
   exact (Mvd.refl _ _ _ _).widen (Nat.le_refl _) c0
 ·have:(List.range ops.toList.length).countP (fun i=>!(Array.replicate ops.size false).getD i false)≤(List.range ops.toList.length).length:=List.countP_le_length
  simpa using this
theorem evReg_c {X:Cx σ} {call:FuncId→List AV→St σ→Option (AV×St σ)} (hc:∀ f args s v s',call f args s=some (v,s')→X.fn f≠none→s.c≤s'.c) {pl:List (Nat×List Nat×List Nat)} {id:Nat} {ops:Array Oper} {d:Bool} {F F':Fr} {s s':St σ} (h:evReg X call pl id ops d F s=some (F',s')):s.c≤s'.c:=by
 cases d with
 | false=>exact evOps_c hc h
 | true =>
  simp only [evReg,Option.bind_eq_some_iff] at h;obtain ⟨p,_,h⟩:=h;exact drawGo_c hc h
theorem evReg_R {X:Cx σ} (hX:XOK X) {O:Outside σ} {call:FuncId→List AV→St σ→Option (AV×St σ)} (hc:CallOK X O call) {pl:List (Nat×List Nat×List Nat)} {id:Nat} {ops:Array Oper} {d:Bool} {Q:Exit→Act→World→Prop} {F F':Fr} {s s':St σ} {E:Env} {w:World} {a:Act}
  (h:evReg X call pl id ops d F s=some (F',s')) (hpl:plansOK X pl (.region id ops d)=true) (r:RF E F a) (R:Rel X O E s.S.get s.g w) (hf:∀ id,s.c≤id→id < s'.c→¬ E.D id) (hQ:∀ a' w',Then X O E s w F' s' a' w'→Q .normal a' w'):(Code.region id ops d).wp X.P Q a w:=by
 cases d with
 | false =>
  refine wp_region ?_;rw [List.range_eq_range'];exact evOps_R hX hc ops.size 0 (by omega) (by rw [List.drop_zero]; exact h) r R hf hQ
 | true =>
  simp only [evReg,Option.bind_eq_some_iff] at h;obtain ⟨p,hp,h⟩:=h;simp only [plansOK,hp] at hpl;exact wp_region_any hX.mixed (drawGo_R hX hc hpl h r R hf hQ)
def Ex.of:Ex→Exit
 | .normal=>.normal
 | .exit id=>.exit id
 | .ret=>.ret
theorem evC_c {X:Cx σ} {n:Nat} (hc:∀ m,m < n→∀ f args s v s',evCall X (evC X m) f args s=some (v,s')→X.fn f≠none→s.c≤s'.c):∀ (m:Nat),m≤n→∀ {pl:List (Nat×List Nat×List Nat)} {c:Code} {F F':Fr} {s s':St σ} {ex:Ex},evC X m pl c F s=some (ex,F',s')→s.c≤s'.c:=by
 intro m
 induction m with
 | zero=>intro _ pl c F F' s s' ex h; simp [evC] at h
 | succ m ih =>
  intro hm pl c F F' s s' ex h;have ih:=fun {pl:List (Nat×List Nat×List Nat)} {c:Code} {F F':Fr} {s s':St σ} {ex:Ex} h=>ih (by omega) (pl:=pl) (c:=c) (F:=F) (F':=F') (s:=s) (s':=s') (ex:=ex) h
  unfold evC at h;split at h
  ·injection h with h; injection h with _ h; injection h with _ h; rw [h]; exact Nat.le_refl _
  ·injection h with h; injection h with _ h; injection h with _ h; rw [h]; exact Nat.le_refl _
  ·rw [Option.map_eq_some_iff] at h
   obtain ⟨⟨F1,s1⟩,h1,h⟩:=h;injection h with _ h; injection h with _ h
   rw [← h];exact evReg_c (hc m (by omega)) h1
  ·rw [Option.bind_eq_some_iff] at h
   obtain ⟨⟨e1,F1,s1⟩,h1,h⟩:=h;have:=ih h1;split at h
   ·exact Nat.le_trans this (ih h)
   ·injection h with h; injection h with _ h; injection h with _ h; rw [← h]; exact this
   ·injection h with h; injection h with _ h; injection h with _ h; rw [← h]; exact this
  ·rw [Option.bind_eq_some_iff] at h
   obtain ⟨v,_,h⟩:=h;split at h
   ·split at h <;> exact ih h
   ·cases h
  ·rw [Option.map_eq_some_iff] at h
   obtain ⟨⟨e1,F1,s1⟩,h1,h⟩:=h;have:=ih h1;split at h
   ·split at h <;> (injection h with _ h; injection h with _ h; rw [← h]; exact this)
   ·injection h with _ h; injection h with _ h; rw [← h]; exact this
   ·injection h with _ h; injection h with _ h; rw [← h]; exact this
  ·rw [Option.bind_eq_some_iff] at h
   obtain ⟨⟨e1,F1,s1⟩,h1,h⟩:=h;have:=ih h1;split at h
   ·exact Nat.le_trans this (ih h)
   ·injection h with h; injection h with _ h; injection h with _ h; rw [← h]; exact this
   ·injection h with h; injection h with _ h; injection h with _ h; rw [← h]; exact this
  ·injection h with h; injection h with _ h; injection h with _ h; rw [h]; exact Nat.le_refl _
  ·exact ih h
  ·injection h with h; injection h with _ h; injection h with _ h; rw [h]; exact Nat.le_refl _
  ·cases h
end Go.Proofs.YtijegngfclkdaaaGreatDoor.Ev
namespace Go.Proofs.YtijegngfclkdaaaGreatDoor.Ev
open Go
variable {σ:Type}
def PlansOK (X:Cx σ):Prop:=∀ f fi,X.fn f=some fi→plansOK X fi.pl fi.body=true
theorem Then.same {X:Cx σ} {O:Outside σ} {E:Env} {F:Fr} {s:St σ} {a:Act} {w:World} (r:RF E F a) (R:Rel X O E s.S.get s.g w):Then X O E s w F s a w:=⟨E,r,R,Mvd.refl _ _ _ _⟩
theorem evC_R {X:Cx σ} (hX:XOK X) {O:Outside σ} {n:Nat} (Hc:∀ m,m < n→CallOK X O (evCall X (evC X m))):∀ (m:Nat),m≤n→∀ {pl:List (Nat×List Nat×List Nat)} {c:Code} {F F':Fr} {s s':St σ} {ex:Ex},evC X m pl c F s=some (ex,F',s')→plansOK X pl c=true →
  ∀ {E:Env} {a:Act} {w:World},RF E F a→Rel X O E s.S.get s.g w→(∀ id,s.c≤id→id < s'.c→¬ E.D id) →
  (∀ Q:Exit→Act→World→Prop,(∀ a' w',Then X O E s w F' s' a' w'→Q ex.of a' w')→c.wp X.P Q a w)∧(∀ b,c=.loop b→∀ Q:Exit→Act→World→Prop,(∀ a' w',Then X O E s w F' s' a' w'→Q ex.of a' w')→Code.rounds X.P b Q m a w):=by
 intro m
 induction m with
 | zero=>intro _ pl c F F' s s' ex h; simp [evC] at h
 | succ m ih =>
  intro hm pl c F F' s s' ex h hpl E a w r R hf;have ih:=fun {pl:List (Nat×List Nat×List Nat)} {c:Code} {F F':Fr} {s s':St σ} {ex:Ex} h=>ih (by omega) (pl:=pl) (c:=c) (F:=F) (F':=F') (s:=s) (s':=s') (ex:=ex) h
  have cle:=fun {pl:List (Nat×List Nat×List Nat)} {c:Code} {F F':Fr} {s s':St σ} {ex:Ex} h=>evC_c (X:=X) (n:=n) (fun k hk=>(Hc k hk).c) m (by omega) (pl:=pl) (c:=c) (F:=F) (F':=F') (s:=s) (s':=s') (ex:=ex) h
  have later:∀ {s1 s':St σ} {w1:World} {E1:Env} {E:Env} {s:St σ} {w:World},s.c≤s1.c→s1.c≤s'.c→(∀ id,s.c≤id→id < s'.c→¬ E.D id)→Mvd E s.S.get s.c w E1 s1.S.get s1.c w1→∀ id,s1.c≤id→id < s'.c→¬ E1.D id:=fun c1 _ hf m id a b hD=>by
   rcases m.fresh id hD with h | ⟨_,h⟩
   ·exact hf id (by omega) b h
   ·omega
  cases c with
  | skip =>
   simp only [evC] at h;injection h with h; injection h with h0 h; injection h with h1 h2
   subst h0 h1 h2;exact ⟨fun Q hQ=>wp_skip (hQ a w (Then.same r R)),fun b hb=>by cases hb⟩
  | label l =>
   simp only [evC] at h;injection h with h; injection h with h0 h; injection h with h1 h2
   subst h0 h1 h2;exact ⟨fun Q hQ=>wp_label (hQ a w (Then.same r R)),fun b hb=>by cases hb⟩
  | exit id =>
   simp only [evC] at h;injection h with h; injection h with h0 h; injection h with h1 h2
   subst h0 h1 h2;exact ⟨fun Q hQ=>wp_exit (hQ a w (Then.same r R)),fun b hb=>by cases hb⟩
  | ret =>
   simp only [evC] at h;injection h with h; injection h with h0 h; injection h with h1 h2
   subst h0 h1 h2;exact ⟨fun Q hQ=>wp_ret (hQ a w (Then.same r R)),fun b hb=>by cases hb⟩
  | region id ops d =>
   simp only [evC,Option.map_eq_some_iff] at h;obtain ⟨⟨F1,s1⟩,h1,h⟩:=h;injection h with h0 h; injection h with h2 h3
   subst h0 h2 h3;exact ⟨fun Q hQ=>evReg_R hX (Hc m (by omega)) h1 hpl r R hf hQ,fun b hb=>by cases hb⟩
  | seq x y =>
   simp only [evC,Option.bind_eq_some_iff] at h;obtain ⟨⟨e1,F1,s1⟩,h1,h⟩:=h;dsimp only at h;simp only [plansOK,Bool.and_eq_true] at hpl;refine ⟨fun Q hQ=>wp_seq ?_,fun b hb=>by cases hb⟩;have c1:=cle h1;cases e1 with
   | normal =>
    dsimp only at h;have c2:=cle h;refine (ih h1 hpl.1 r R (fun id a b=>hf id a (by omega))).1 _ fun a' w' ⟨E1,t1,t2,t3⟩=>?_
    exact (ih h hpl.2 t1 t2 (later c1 c2 hf t3)).1 Q fun a'' w'' t=>hQ a'' w'' (Then.trans c1 c2 t2 t3 t)
   | exit j =>
    dsimp only at h;injection h with h; injection h with h0 h; injection h with h2 h3
    subst h0 h2 h3;exact (ih h1 hpl.1 r R hf).1 _ fun a' w' t=>hQ a' w' t
   | ret =>
    dsimp only at h;injection h with h; injection h with h0 h; injection h with h2 h3
    subst h0 h2 h3;exact (ih h1 hpl.1 r R hf).1 _ fun a' w' t=>hQ a' w' t
  | cond x y z =>
   simp only [evC,Option.bind_eq_some_iff] at h;obtain ⟨v,hv,h⟩:=h;simp only [plansOK,Bool.and_eq_true] at hpl;split at h
   ·rename_i t
    have ev:=evO_R r R.glob x _ hv;refine ⟨fun Q hQ=>wp_cond ev.1 ?_,fun b hb=>by cases hb⟩;cases t
    ·exact (ih h hpl.2 r R hf).1 Q hQ
    ·exact (ih h hpl.1 r R hf).1 Q hQ
   ·cases h
  | block id b =>
   simp only [evC,Option.map_eq_some_iff] at h;obtain ⟨⟨e1,F1,s1⟩,h1,h⟩:=h;simp only [plansOK] at hpl;refine ⟨fun Q hQ=>wp_block ?_,fun b hb=>by cases hb⟩;cases e1 with
   | normal =>
    dsimp only at h;injection h with h0 h; injection h with h2 h3
    subst h0 h2 h3;exact (ih h1 hpl r R hf).1 _ fun a' w' t=>hQ a' w' t
   | ret =>
    dsimp only at h;injection h with h0 h; injection h with h2 h3
    subst h0 h2 h3;exact (ih h1 hpl r R hf).1 _ fun a' w' t=>hQ a' w' t
   | exit j =>
    dsimp only at h;cases hb:Nat.beq j id with
    | true =>
     rw [hb] at h;dsimp only at h;injection h with h0 h; injection h with h2 h3
     subst h0 h2 h3;refine (ih h1 hpl r R hf).1 _ fun a' w' t=>?_
     show (if j=id then Q .normal a' w' else Q (.exit j) a' w');rw [if_pos (Nat.eq_of_beq_eq_true hb)];exact hQ a' w' t
    | false =>
     rw [hb] at h;dsimp only at h;injection h with h0 h; injection h with h2 h3
     subst h0 h2 h3;refine (ih h1 hpl r R hf).1 _ fun a' w' t=>?_
     show (if j=id then Q .normal a' w' else Q (.exit j) a' w');rw [if_neg (Nat.ne_of_beq_eq_false hb)];exact hQ a' w' t
  | scope b =>
   simp only [evC] at h;simp only [plansOK] at hpl;refine ⟨fun Q hQ=>wp_scope_straight ((ih h hpl r R hf).1 _ fun a' w' t=>?_),fun b hb=>by cases hb⟩;cases ex <;> exact hQ a' w' t
  | loop b =>
   simp only [evC,Option.bind_eq_some_iff] at h;obtain ⟨⟨e1,F1,s1⟩,h1,h⟩:=h;dsimp only at h;have hplb:plansOK X pl b=true:=by simpa [plansOK] using hpl
   have c1:=cle h1;have rd:∀ Q:Exit→Act→World→Prop,(∀ a' w',Then X O E s w F' s' a' w'→Q ex.of a' w')→Code.rounds X.P b Q (m + 1) a w:=fun Q hQ=>by
    rw [rounds_succ];cases e1 with
    | normal =>
     dsimp only at h;have c2:=cle h;refine (ih h1 hplb r R (fun id a b=>hf id a (by omega))).1 _ fun a' w' ⟨E1,t1,t2,t3⟩=>?_
     exact (ih h hpl t1 t2 (later c1 c2 hf t3)).2 b rfl Q fun a'' w'' t=>hQ a'' w'' (Then.trans c1 c2 t2 t3 t)
    | exit j =>
     dsimp only at h;injection h with h; injection h with h0 h; injection h with h2 h3
     subst h0 h2 h3;exact (ih h1 hplb r R hf).1 _ fun a' w' t=>hQ a' w' t
    | ret =>
     dsimp only at h;injection h with h; injection h with h0 h; injection h with h2 h3
     subst h0 h2 h3;exact (ih h1 hplb r R hf).1 _ fun a' w' t=>hQ a' w' t
   exact ⟨fun Q hQ=>wp_loop_rounds (m + 1) (rd Q hQ),fun b' hb Q hQ=>by injection hb with hb; rw [← hb]; exact rd Q hQ⟩
  | rangeFunc f p x y=>simp [evC] at h
  | goto l=>simp [evC] at h
  | refuse y=>simp [evC] at h
theorem argF_get:∀ (l:List AV) (i:Nat) (T:Tr AV) (t:Nat),(argF l i T).get t=if i≤t∧t < i + l.length then l[t - i]? else T.get t
 | [],i,T,t=>by rw [if_neg (by simp only [List.length_nil]; omega)]; rfl
 | v :: l,i,T,t=>by
  rw [argF,argF_get l (i + 1) _ t]
  by_cases h1:i + 1≤t∧t < i + 1 + l.length
  ·rw [if_pos h1,if_pos (by simp; omega),show t - i=(t - (i + 1)) + 1 by omega,List.getElem?_cons_succ]
  ·rw [if_neg h1,Tr.get_set]
   by_cases h2:t=i
   ·subst h2
    rw [if_pos rfl,if_pos (by simp),Nat.sub_self];rfl
   ·rw [if_neg h2,if_neg (by simp; omega)]
theorem evRes_R {X:Cx σ} (hX:XOK X) {E:Env} {F:Fr} {a:Act} {w:World} {S:Tr Ob} (r:RF E F a) (hS:∀ id ob,S.get id=some ob→E.D id∧RO E id w ob) (g:ResultVar→Sem Value) (hg1:∀ t,g (.tmp t)=pure (a.tmps.getD t undef)) (hg2:∀ b t,g (.cell b t)=do loadVar t (← asAddr (a.tmps.getD b undef))):∀ {l:List ResultVar} {vs:List AV},evRes X F S l=some vs→∃ ys,Rel2 (RV E) vs ys ∧
  Rel2 (fun (x:ResultVar) y=>(g x).run X.P w=.ok y w) l ys
 | [],vs,h=>by simp only [evRes] at h; injection h with h; subst h; exact ⟨[],trivial,trivial⟩
 | .tmp t :: l,vs,h=>by
  simp only [evRes,Option.bind_eq_some_iff,Option.map_eq_some_iff] at h;obtain ⟨v,hv,vs',h1,rfl⟩:=h;obtain ⟨ys,g1,g2⟩:=evRes_R hX r hS g hg1 hg2 h1;obtain ⟨y,k1,k2⟩:=r.2.2 t v hv;exact ⟨y :: ys,⟨k2,g1⟩,⟨by dsimp only; rw [hg1]; simp [Array.getD_eq_getD_getElem?,k1],g2⟩⟩
 | .cell b t :: l,vs,h=>by
  simp only [evRes,Option.bind_eq_some_iff] at h;obtain ⟨d,hd,i,hi,v,hv,h⟩:=h;split at h
  ·rename_i id off
   rw [Option.bind_eq_some_iff] at h;obtain ⟨row,hrow,h⟩:=h;rw [Option.bind_eq_some_iff] at h;obtain ⟨u,hu,h⟩:=h;rw [Option.map_eq_some_iff] at h;obtain ⟨vs',h1,rfl⟩:=h;obtain ⟨ys,g1,g2⟩:=evRes_R hX r hS g hg1 hg2 h1;obtain ⟨y,k1,_,k2⟩:=r.2.2 b _ hv;obtain ⟨rty,hrow⟩:=look_some hrow;obtain ⟨z,z1,z2⟩:=loadVar_R hX (hS _ _ hrow).2 hd hi hu;refine ⟨z :: ys,⟨z2,g1⟩,⟨?_,g2⟩⟩;rw [k2] at k1;rw [hg2];simp [Array.getD_eq_getD_getElem?,k1,asAddr,z1]
  ·cases h
theorem v1s_R {E:Env}:∀ {l:List AV} {vs:List V1} {ys:List Value},v1s l=some vs→Rel2 (RV E) l ys→Rel2 (R1 E) vs ys
 | [],vs,ys,h,hr=>by simp only [v1s] at h; injection h with h; subst h; rw [hr.nil_left]; trivial
 | .w x :: l,vs,[],h,hr=>hr.elim
 | .w x :: l,vs,y :: ys,h,⟨a,b⟩=>by
  simp only [v1s,Option.map_eq_some_iff] at h;obtain ⟨vs',h1,rfl⟩:=h;exact ⟨a,v1s_R h1 b⟩
 | .tup x :: l,vs,ys,h,hr=>by simp [v1s] at h
theorem results_R {X:Cx σ} (hX:XOK X) {E:Env} {F:Fr} {a:Act} {w:World} {S:Tr Ob} (r:RF E F a) (hS:∀ id ob,S.get id=some ob→E.D id∧RO E id w ob) {fn:Func} {v:AV} (h:(evRes X F S fn.results.toList).bind resOf=some v):∃ y,(results fn a.tmps).run X.P w=.ok y w∧RV E v y:=by
 rw [Option.bind_eq_some_iff] at h;obtain ⟨vs,h1,h2⟩:=h;obtain ⟨g,hg⟩:∃ g:ResultVar→Sem Value,(∀ t,g (.tmp t)=pure (a.tmps.getD t undef))∧(∀ b t,g (.cell b t)=do loadVar t (← asAddr (a.tmps.getD b undef)))∧results fn a.tmps=(do
   let vs ← fn.results.mapM g
   pure (if h:vs.size=1 then vs[0] else .tuple vs)):=⟨_,fun _=>rfl,fun _ _=>rfl,rfl⟩
 obtain ⟨hg1,hg2,hg3⟩:=hg;obtain ⟨ys,g1,g2⟩:=evRes_R hX r hS g hg1 hg2 h1;rw [hg3,Sem.run_bind,run_mapM (P:=X.P) (w:=w) _ g2,Result.andThen_ok];unfold resOf at h2;split at h2
 ·injection h2 with h2
  subst h2
  match ys,g1 with
  | [y],g1=>exact ⟨y,rfl,g1.1⟩
 ·rename_i hne
  rw [Option.map_eq_some_iff] at h2;obtain ⟨v1,h3,rfl⟩:=h2;have hl:=g1.length;have hsz:¬ ys.toArray.size=1:=fun hh=>by
   rw [List.size_toArray] at hh
   match vs,hl,hne with
   | [x],_,hne=>exact hne x rfl
   | [],hl,_=>simp at hl; omega
   | _ :: _ :: _,hl,_=>simp at hl; omega
  rw [dif_neg hsz];exact ⟨_,rfl,ys.toArray,rfl,v1s_R h3 g1⟩
theorem evCall_R {X:Cx σ} (hX:XOK X) (hP:PlansOK X) {O:Outside σ} (hO:CallOK X O X.orc):∀ n,CallOK X O (evCall X (evC X n)):=by
 intro n
 induction n using Nat.strongRecOn with
 | _ n IH =>
  intro f args s v s' h hn;unfold evCall at h;split at h
  ·rename_i r hr
   injection h with h
   subst h;exact hO f args s v s' hr hn
  ·simp only [Option.bind_eq_some_iff,gd_some] at h
   obtain ⟨fi,hfi,hlen,⟨ex,F',s1⟩,h1,h⟩:=h;have hlen:=Nat.le_of_ble_eq_true hlen;have hc:=evC_c (X:=X) (n:=n) (fun k hk=>(IH k hk).c) n (Nat.le_refl _) h1;have hex:∃ u,((evRes X F' s1.S fi.res).bind resOf)=some u∧v=u∧s'=s1∧(ex.of=.normal∨ex.of=.ret):=by
    cases ex with
    | exit j=>cases h
    | normal =>
     dsimp only at h;rw [Option.map_eq_some_iff] at h;obtain ⟨u,hu,h⟩:=h;injection h with h2 h3
     exact ⟨u,hu,h2.symm,h3.symm,.inl rfl⟩
    | ret =>
     dsimp only at h;rw [Option.map_eq_some_iff] at h;obtain ⟨u,hu,h⟩:=h;injection h with h2 h3
     exact ⟨u,hu,h2.symm,h3.symm,.inr rfl⟩
   obtain ⟨u,hu,rfl,rfl,hor⟩:=hex;refine ⟨hc,fun E w vals R hf hargs=>?_⟩;obtain ⟨fn,f1,f2,f3,f4,_⟩:=hX.fn _ _ hfi;have hal:=hargs.length;refine calls_of_wp f1 f2 ?_;have r:RF E ⟨fi.nt,argF args 0 .e⟩ { tmps:=vals.toArray ++ Array.replicate (fn.ntmps - vals.toArray.size) undef,defers:=[] }:=by
    refine ⟨rfl,by simp; omega,fun t av ht=>?_⟩;dsimp only at ht;rw [argF_get] at ht
    by_cases ht':0≤t∧t < 0 + args.length
    ·rw [if_pos ht',Nat.sub_zero] at ht
     obtain ⟨y,k1,k2⟩:=hargs.get ht;refine ⟨y,?_,k2⟩;rw [Array.getElem?_append_left (by simp; omega)];simpa using k1
    ·rw [if_neg ht'] at ht
     cases ht
   refine (evC_R hX IH n (Nat.le_refl _) h1 (hP _ _ hfi) r R hf).1 _ fun a' w' ⟨E',t1,t2,t3⟩=>?_
   have hres:=results_R hX t1 t2.ob (fn:=fn) (v:=v) (by rw [f4]; exact hu);obtain ⟨y,y1,y2⟩:=hres;have post:a'.defers=[]∧∃ v,(results fn a'.tmps).run X.P w'=.ok v w'∧(∃ y,Ending.returned v=.returned y∧StepP X O E s w (some _) s' y w'):=⟨t1.1,y,y1,y,rfl,E',fun av e=>by injection e with e; rw [← e]; exact y2,t2,t3⟩;rcases hor with hor | hor <;> rw [hor] <;> exact post
end Go.Proofs.YtijegngfclkdaaaGreatDoor.Ev
namespace Go.Proofs.YtijegngfclkdaaaGreatDoor.Ev
open Go
noncomputable section
def infP (P:Program) (t:TypeId):Option TI:=(P.info? t).bind fun i=>i.zero.bind fun z=>gd (Nat.beq z.cells.size i.size) (some ⟨i.size,i.bytes,z⟩)
def findF:List (Nat×List (Nat×List Nat×List Nat))→Nat→Option (List (Nat×List Nat×List Nat))
 | [],_=>none
 | p :: l,i=>match Nat.beq p.1 i with
  | true=>some p.2
  | false=>findF l i
def fnP (P : Program) (pl : List (Nat × List (Nat × List Nat × List Nat))) (f : FuncId) : Option FI := (findF pl f).bind fun q => (P.funcs[f]?).bind fun F => gd (!(F.name == "runtime.NumGoroutine")) (F.body.map fun b => ⟨b, F.ntmps, F.results.toList, q⟩)
def XPP {σ:Type} (P:Program) (pl:List (Nat×List (Nat×List Nat×List Nat))) (orc:FuncId→List AV→St σ→Option (AV×St σ)):Cx σ:={ P,und:=P.underlying,inf:=infP P,fn:=fnP P pl,ng:=P.globals.size,orc }
theorem XPP_ok {σ:Type} (P:Program) (pl:List (Nat×List (Nat×List Nat×List Nat))) (hm:P.follows .mixedOrders=true) (orc:FuncId→List AV→St σ→Option (AV×St σ)):XOK (XPP P pl orc) where
 und:=fun _ _ h=>h
 inf:=fun t i h=>by
  simp only [XPP,infP,Option.bind_eq_some_iff,gd_some] at h;obtain ⟨ti,h1,z,h2,_,h3⟩:=h;injection h3 with h3
  subst h3;exact ⟨ti,h1,rfl,rfl,h2⟩
 zsz:=fun t i h=>by
  simp only [XPP,infP,Option.bind_eq_some_iff,gd_some] at h;obtain ⟨ti,h1,z,h2,h4,h3⟩:=h;injection h3 with h3
  subst h3;exact Nat.eq_of_beq_eq_true h4
 fn:=fun f i h=>by
  simp only [XPP,fnP,Option.bind_eq_some_iff,gd_some,Option.map_eq_some_iff] at h;obtain ⟨q,_,F,h1,h2,b,h3,h4⟩:=h;subst h4;exact ⟨F,h1,h3,rfl,rfl,by simpa using h2⟩
 mixed:=hm
theorem findF_mem:∀ {l:List (Nat×List (Nat×List Nat×List Nat))} {f:Nat} {pl:List (Nat×List Nat×List Nat)},findF l f=some pl→∃ p∈l,p.1=f
 | [],_,_,h=>by cases h
 | p :: l,f,pl,h=>by
  simp only [findF] at h;split at h
  ·rename_i hb; exact ⟨p,by simp,Nat.eq_of_beq_eq_true hb⟩
  ·obtain ⟨q,h1,h2⟩:=findF_mem h
   exact ⟨q,List.mem_cons_of_mem _ h1,h2⟩
def chk {σ:Type} (X:Cx σ) (l:List (Nat×List (Nat×List Nat×List Nat))):Bool:=l.all fun p=>match X.fn p.1 with
 | some fi=>plansOK X fi.pl fi.body
 | none=>true
theorem XPP_plans {σ:Type} {P:Program} {pl:List (Nat×List (Nat×List Nat×List Nat))} {orc:FuncId→List AV→St σ→Option (AV×St σ)} (h:chk (XPP P pl orc) pl=true):PlansOK (XPP P pl orc):=fun f fi hf=>by
 have hf':=hf;simp only [XPP,fnP,Option.bind_eq_some_iff] at hf';obtain ⟨q,hq,_⟩:=hf';obtain ⟨p,h1,h2⟩:=findF_mem hq;simp only [chk,List.all_eq_true] at h;have:=h p h1;rw [h2,hf] at this;exact this
end
end Go.Proofs.YtijegngfclkdaaaGreatDoor.Ev
