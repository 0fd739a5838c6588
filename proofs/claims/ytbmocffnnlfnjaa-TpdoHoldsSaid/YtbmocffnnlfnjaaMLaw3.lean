/-
  Walk: TpdoHolds.
  Conditions: none.
-/
import Derived.Test.YtbmocffnnlfnjaaJ04
import Derived.Test.YtbmocffnnlfnjaaJ16
import Derived.Test.YtbmocffnnlfnjaaJ17
import Derived.Deep.DeepCutAuto
import Derived.Deep.CutBlock
namespace Go.Proofs.Ytbmocffnnlfnjaa
set_option linter.unusedVariables false
set_option linter.unusedSimpArgs false
open Go.ChangeShapes Go.WideShapes Go.ChangeAt Go.RowKit Go.Sort
/-- Between the switch and the rest of a round. -/
def HoldRel (W : World) (case : Array Value) (k p gd v : Nat) (t inh ev : Int) (ws : List Nat) (l : List Ent.En) (v8 v9 v12 : Value) (w : World) : Prop :=
  ∃ (Fp : Nat → Prop) (L : List Can.Fr) (A : Option Addr) (c base : Nat) (since op : Int) (s : Tp.St) (D : Dc.Dic), v12 = .slice A L.length c ∧ v8 = .int .i64 since ∧ v9 = .int .i64 op ∧ Below W.heap.size W w ∧ Tl w Fp p gd v t inh ev ws s D ∧ (∀ q, Fp q → W.heap.size < q) ∧ D.l = l ∧ Blk w W.heap.size 29 case ∧ OS (FrW w base) w base 56 3 A L.length c L ∧ since ≤ 70000 + k + 1 ∧
    ((L = [] ∧ Tp.Tm inh s since op) ∨ (L = [⟨(Cob.pdo v : Int), false, (Mp.gatherS D ws).1⟩] ∧ inh ≤ since ∧ Tp.Tm inh s 0 (-1)))
set_option maxRecDepth 100000 in
set_option maxHeartbeats 16000000 in
theorem TpdoHolds_walk (W : World) {A0 A1 A2 : Option Addr} {n0 c0 n1 c1 n2 c2 v1 : Nat} {t inh ev : Int} {es : List Ent.En} {ws : List Nat} {ops : List TOp} (h0 : REn W W.heap.size W.heap.size A0 n0 c0 es) (hnm : ∀ e ∈ es, e.name.length ≤ 9223372036854775807) (hv : v1 < 4294967296) (h1 : RW W W.heap.size A1 n1 c1 ws) (hwl : ∀ x ∈ ws, x < 4294967296) (wt : (Lit.int .i64 t).wf = true ∧ (Lit.int .i64 inh).wf = true ∧ (Lit.int .i64 ev).wf = true) (h2 : TOps W W.heap.size W.heap.size A2 n2 c2 ops) :
    Calls Try.prog 5 #[.agg #[.slice A0 n0 c0, .int .u32 (v1 : Int), .int .i64 t, .int .i64 inh, .int .i64 ev, .slice A1 n1 c1, .slice A2 n2 c2]] W fun e W' => e = .returned (.bool true) ∧ Below W.heap.size W W' := by
  have b0 := alloc_one W (.cells #[.slice A0 n0 c0, .int .u32 (v1 : Int), .int .i64 t, .int .i64 inh, .int .i64 ev, .slice A1 n1 c1, .slice A2 n2 c2] 29)
  have K := Blk.new W 29 #[.slice A0 n0 c0, .int .u32 (v1 : Int), .int .i64 t, .int .i64 inh, .int .i64 ev, .slice A1 n1 c1, .slice A2 n2 c2]
  have F0 := K.seven
  have LI := Lib.hid (light32_any (A1 := A1) (n1 := n1) (c1 := c1) v1 t inh ev _ (h0.below b0 (Nat.le_refl _)) hnm (h2.below b0 (Nat.le_refl _)) b0.size)
  have hl1 := h1.len
  subst hl1
  go_enter Try.func5, Try.ntmps5
  go_wp2_with fail
  refine (LI.out).mono ?_
  rintro e w1 ⟨bl, rfl, b1, hbl⟩
  have d1 := below_step b0 b1 (Nat.le_refl _)
  have K1 := K.later b1
  have F1 := K1.seven
  clear F0 K b0 b1 LI
  cases bl
  · clear hbl
    go_wp2_with fail
    refine (known32_any _).mono ?_
    rintro e w9 ⟨rfl, b9⟩
    go_wp2_with fail
    go_ret
    exact ⟨rfl, below_step d1 b9 (Nat.le_refl _)⟩
  obtain ⟨_, hes, hn100, hops⟩ := hbl rfl
  clear hbl
  by_cases ht : t < 254
  · clear hes hops hnm
    go_wp2_with fail
    refine (known32_any _).mono ?_
    rintro e w9 ⟨rfl, b9⟩
    go_wp2_with fail
    go_ret
    exact ⟨rfl, below_step d1 b9 (Nat.le_refl _)⟩
  have ND := dNew_any w1 (h0.below d1 (Nat.le_refl _)) d1.size (Nat.le_refl _) (fun e he => by have := hes e he; omega)
  unfold NewPost at ND
  have hfine : (Dc.newS es).1 = 0 → Dc.Fine ⟨es, es.map (·.dflt)⟩ := fun h => Dc.Fine.new h (fun e he => by have := hes e he; omega)
  have hdd : ∀ e ∈ es, e.dflt.length ≤ 1000000 := fun e he => by have := hes e he; omega
  clear hes hnm
  generalize hD : (⟨es, es.map (·.dflt)⟩ : Dc.Dic) = D at *
  have hDl : es = D.l := by rw [← hD]
  rw [hDl] at hdd
  clear hD hDl h0
  generalize Dc.newS es = nn at *
  obtain ⟨ne, np⟩ := nn
  dsimp only at ND hfine
  replace ND := Lib.hid ND
  have HOPS := Lib.hid hops
  clear hops
  by_cases hne : ne = 0
  case neg =>
    have hne2 : (ne == 0) = false := by simpa using hne
    have hne3 : (ne != 0) = true := by simpa using hne
    have HNE := Lib.hid hne
    clear hne
    go_wp2_with fail
    refine (ND.out).mono ?_
    rintro e w2 (⟨hx, _⟩ | ⟨_, b2, rfl⟩)
    case inl => exact absurd hx HNE.out
    have d3 := below_step d1 b2 (Nat.le_refl _)
    go_wp2_with fail
    refine (known32_any _).mono ?_
    rintro e w9 ⟨rfl, b9⟩
    go_wp2_with fail
    go_ret
    exact ⟨rfl, below_step d3 b9 (Nat.le_refl _)⟩
  subst hne
  go_wp2_with fail
  refine (ND.out).mono ?_
  rintro e w2 (⟨_, b2, gd, gv, lc, vc, la, vA, xs, vs, rfl, hd⟩ | ⟨hx, _⟩)
  case inr => exact absurd rfl hx
  replace hd := hd.cut
  replace hfine := hfine (by trivial)
  have hright := hd.right
  have d3 := below_step d1 b2 (Nat.le_refl _)
  have K3 := K1.later b2
  have F3 := K3.seven
  have hz3 : W.heap.size ≤ w2.heap.size := d3.size
  have hz1' : W.heap.size < w1.heap.size := K1.lt
  clear F1 K1 ND d1 b2
  have GV := Lib.hid (fun w => given32_any v1 t inh ev A1 ws.length c1 w)
  go_wp2_with fail
  refine (GV.out _).mono ?_
  rintro e w3 ⟨rfl, b3⟩
  have d4 := below_step d3 b3 (Nat.le_refl _)
  have K4 := K3.later b3
  have F4 := K4.seven
  have RN := TpNew_any v1 hv t inh ev (hd.below b3) hdd (h1.below d4) hwl d4.size
  unfold TNewP at RN
  have hcp := Tp.check_parts (l := D.l) (w := v1) (t := t) (inh := inh) (ev := ev) (ws := ws)
  generalize Tp.checkS D.l v1 t inh ev ws = ck at *
  replace RN := Lib.hid RN
  clear F3 K3 GV
  by_cases hck : ck = 0
  case neg =>
    have hck2 : (ck == 0) = false := by simpa using hck
    have hck3 : (ck != 0) = true := by simpa using hck
    have HCK := Lib.hid hck
    clear hcp hck
    go_wp2_with fail
    refine (RN.out).mono ?_
    rintro e w4 (⟨hx, _⟩ | ⟨_, b4, rfl⟩)
    case inl => exact absurd hx HCK.out
    have d5 := below_step d4 b4 (Nat.le_refl _)
    go_wp2_with fail
    refine (known32_any _).mono ?_
    rintro e w9 ⟨rfl, b9⟩
    go_wp2_with fail
    go_ret
    exact ⟨rfl, below_step d5 b9 (Nat.le_refl _)⟩
  subst hck
  obtain ⟨_, hkind, hmc⟩ := hcp rfl
  clear hcp
  go_wp2_with fail
  refine (RN.out).mono ?_
  rintro e w4 (⟨_, b4, p, Aw, cw, rfl, hp⟩ | ⟨hx, _⟩)
  case inr => exact absurd rfl hx
  have d5 := below_step d4 b4 (Nat.le_refl _)
  have K5 := K4.later b4
  have F5 := K5.seven
  have hz34 := b3.size
  have TL0 := Tl.new (hd.below b3) (fun q hq => by have := hq.2; omega) b4 hp hfine hdd hwl (Tp.Ok.rest hkind)
  have hz12 : W.heap.size < w2.heap.size := by have := K4.lt; have := (hd.blk).lt; have := hd.fg.1; omega
  obtain ⟨Fp, TL, hFp⟩ : ∃ Fp : Nat → Prop, Tl w4 Fp p gd v1 t inh ev ws (Tp.restS ev) D ∧ ∀ q, Fp q → W.heap.size < q := ⟨_, TL0, fun q hq => by
    rcases hq with hq | hq
    · have := hq.1; omega
    · have := hq.1; omega⟩
  clear TL0 F4 K4 RN hp hd b3 b4
  have ID := Lib.hid TL.id
  have HB := Lib.hid (fun (D' : Dc.Dic) (h1 : Dc.Fine D') (h2 : D'.l = D.l) (h3 : ∀ e ∈ D'.l, Ent.rightS e = 0) => Tp.bytes_ok (ws := ws) v1 h3 h1 (by rw [h2]; exact hmc))
  have TL' := Lib.hid TL
  obtain ⟨_, hinh, _⟩ := Tp.kind_parts hkind
  clear TL hright hfine hmc hdd hkind
  by_cases hpd : Cob.pdo v1 = 0
  · have e0 : (Cob.pdo v1 : Int) = 0 := by omega
    rw [e0] at ID
    clear e0 hpd
    go_wp2_with fail
    refine (ID.out).mono ?_
    rintro e _ ⟨rfl, rfl⟩
    go_wp2_with fail
    refine (known32_any _).mono ?_
    rintro e w9 ⟨rfl, b9⟩
    go_wp2_with fail
    go_ret
    exact ⟨rfl, below_step d5 b9 (Nat.le_refl _)⟩
  have e0 : ((Cob.pdo v1 : Int) == 0) = false := by rw [beq_eq_false_iff_ne]; omega
  by_cases hws : ws.length = 0
  · have e1 : ((ws.length : Int) == 0) = true := by rw [hws]; rfl
    go_wp2_with fail
    refine (ID.out).mono ?_
    rintro e _ ⟨rfl, rfl⟩
    go_wp2_with fail
    refine (known32_any _).mono ?_
    rintro e w9 ⟨rfl, b9⟩
    go_wp2_with fail
    go_ret
    exact ⟨rfl, below_step d5 b9 (Nat.le_refl _)⟩
  have e1 : ((ws.length : Int) == 0) = false := by rw [beq_eq_false_iff_ne]; omega
  have HPW := Lib.hid (show ¬ (Cob.pdo v1 = 0 ∨ ws.length = 0) by simp [hpd, hws])
  have TM0 : Tp.Tm inh (Tp.restS ev) 70000 (-1) := ⟨hinh, by unfold Tp.restS; dsimp only; omega, by unfold Tp.restS; dsimp only; omega, .inl rfl⟩
  have hl2 : n2 ≤ 9223372036854775807 := h2.lt
  clear hpd hws
  go_wp2_with fail
  refine (ID.out).mono ?_
  rintro e _ ⟨rfl, rfl⟩
  go_wp2_with fail
  generalize hcs : (#[.slice A0 n0 c0, .int .u32 (v1 : Int), .int .i64 t, .int .i64 inh, .int .i64 ev, .slice A1 ws.length c1, .slice A2 n2 c2] : Array Value) = cs at K5
  have HCS := Lib.hid hcs
  clear hcs F5 ID
  go_loopw [8, 9, 10] (fun v8 v9 v10 wr => ∃ (k : Nat) (Fp : Nat → Prop) (since op : Int) (s : Tp.St) (D' : Dc.Dic), k ≤ n2 ∧ k ≤ 100 ∧ v10 = .int .i64 k ∧ v8 = .int .i64 since ∧ v9 = .int .i64 op ∧ Below W.heap.size W wr ∧ Tl wr Fp p gd v1 t inh ev ws s D' ∧ (∀ q, Fp q → W.heap.size < q) ∧ D'.l = D.l ∧ Blk wr W.heap.size 29 cs ∧ since ≤ 70000 + k ∧ Tp.Tm inh s since op) (fun _ _ i _ => n2 - (intOf i).toNat)
  case atStart => exact ⟨0, Fp, 70000, -1, _, D, by omega, by omega, rfl, rfl, rfl, d5, TL'.out, hFp, rfl, K5, by omega, TM0⟩
  case round =>
    clear hFp d5 K5 TM0 TL'
    obtain ⟨k, Fp, since, op, s, D', hk, hk100, rfl, rfl, rfl, dk, TK, hFp, hDl, KK, hsn, TM⟩ := hrel
    obtain ⟨w11, hw11⟩ : ∃ w, w = wr := ⟨wr, rfl⟩
    subst hw11
    rw [← HCS.out] at KK
    have FC := KK.seven
    by_cases hkn : k < n2
    case neg =>
      obtain rfl : k = n2 := by omega
      go_wp2_with fail
      refine (known32_any _).mono ?_
      rintro e w13 ⟨rfl, b13⟩
      go_wp2_with fail
      go_ret
      exact ⟨rfl, below_step dk b13 (Nat.le_refl _)⟩
    by_cases hk6 : k < 100
    case neg =>
      obtain rfl : k = 100 := by omega
      have hn60 : (100 : Int) < (n2 : Int) := by omega
      go_wp2_with fail
      refine (known32_any _).mono ?_
      rintro e w13 ⟨rfl, b13⟩
      go_wp2_with fail
      go_ret
      exact ⟨rfl, below_step dk b13 (Nat.le_refl _)⟩
    obtain ⟨bo, oo, A', n', c', rfl, hbB, q0, q1, q2, q3, hrb⟩ := (h2.below dk (Nat.le_refl _)).at_ hkn
    have hd100 := HOPS.out k hkn hk6
    have hdat := hrb.len
    generalize ops.getD k top0 = opk at *
    obtain ⟨kd, ix, sb, dat⟩ := opk
    dsimp only at q0 q1 q2 q3 hrb hd100 hdat
    have hn' : n' ≤ 1000 := by omega
    clear hd100 hdat
    have ba := alloc_one w11 (.cells #[.int .i64 kd, .int .i64 ix, .int .i64 sb, .slice A' n' c'] 51)
    have KP := Blk.new w11 51 #[.int .i64 kd, .int .i64 ix, .int .i64 sb, .slice A' n' c']
    have HCB := Lib.hid (show TOps w11 W.heap.size W.heap.size (some ⟨bo, oo, none⟩) n2 c2 ops from h2.below dk (Nat.le_refl _))
    have TK1 := TK.below ba
    have dk1 := below_step dk ba (Nat.le_refl _)
    have KK1 := KK.later ba
    have FP := KP.four
    have hrb1 := hrb.below (ba.mono dk.size)
    have hB1 := dk1.size
    have hTr := Lib.hid TM
    have hp1 := hFp p TK1.lt.1
    have HBs := HB.out D' TK1.fine hDl TK1.right
    rw [if_neg HPW.out] at HBs
    have hinh1 := TM.le
    have hinh2 : 0 ≤ since := TM.since.2
    have hinh3 : -1 ≤ op := by have := TM.op; omega
    go_upto_block 2 with fail
    go_cut [8, 9, 12] (fun v8 v9 v12 wx => HoldRel W #[.slice A0 n0 c0, .int .u32 (v1 : Int), .int .i64 t, .int .i64 inh, .int .i64 ev, .slice A1 ws.length c1, .slice (some ⟨bo, oo, none⟩) n2 c2] k p gd v1 t inh ev ws D.l v8 v9 v12 wx)
    case first =>
      clear TK dk KK KP ba q0 q1 q2 q3 hrb FC TM
      generalize w11.alloc (.cells #[.int .i64 kd, .int .i64 ix, .int .i64 sb, .slice A' n' c'] 51) = w12 at *
      by_cases z0 : kd = 0
      · subst z0
        have TR := TK1.trigger
        rcases (hTr.out).trig (t := t) (by omega) with ⟨x1, x2⟩ | ⟨x1, x2⟩
        · rw [show outT v1 (Tp.bytesS D' v1 ws) (Tp.trigS t s) = [⟨(Cob.pdo v1 : Int), false, (Mp.gatherS D' ws).1⟩] by unfold outT; rw [if_pos x1, HBs.2]; rfl] at TR
          have TMs := Lib.hid (show Tp.Tm inh (stT inh ev (Tp.trigS t s)) 0 (-1) by unfold stT; rw [if_pos x1]; exact Tp.Tm.sent hinh _)
          unfold TlOut at TR
          replace TR := Lib.hid TR
          have X2 := Lib.hid x2
          clear x1 x2 HBs TK1
          by_cases ho : op < 0
          · go_wp2_with fail
            refine (TR.out).mono ?_
            rintro e w13 ⟨Aa, ca, rfl, oa, Ma, TLa⟩
            have d13 := dk1.trans (Ma.below hB1 fun q e => by subst e; omega)
            have K13 := KK1.mv Ma (by omega)
            clear TR
            go_wp2_with fail
            go_meet
            exact ⟨Fp, _, Aa, ca, _, since, 0, _, D', rfl, rfl, rfl, d13, TLa, hFp, hDl, K13, oa, by omega, .inr ⟨rfl, X2.out, TMs.out⟩⟩
          · go_wp2_with fail
            refine (TR.out).mono ?_
            rintro e w13 ⟨Aa, ca, rfl, oa, Ma, TLa⟩
            have d13 := dk1.trans (Ma.below hB1 fun q e => by subst e; omega)
            have K13 := KK1.mv Ma (by omega)
            clear TR
            go_wp2_with fail
            go_meet
            exact ⟨Fp, _, Aa, ca, _, since, op, _, D', rfl, rfl, rfl, d13, TLa, hFp, hDl, K13, oa, by omega, .inr ⟨rfl, X2.out, TMs.out⟩⟩
        · rw [show outT v1 (Tp.bytesS D' v1 ws) (Tp.trigS t s) = [] by unfold outT; rw [if_neg (by rw [x1]; simp)]] at TR
          have TMs := Lib.hid (show Tp.Tm inh (stT inh ev (Tp.trigS t s)) since (if op < 0 then 0 else op) by unfold stT; rw [if_neg (by rw [x1]; simp)]; exact x2)
          unfold TlOut at TR
          replace TR := Lib.hid TR
          clear x1 x2 HBs TK1
          by_cases ho : op < 0
          · go_wp2_with fail
            refine (TR.out).mono ?_
            rintro e w13 ⟨Aa, ca, rfl, oa, Ma, TLa⟩
            have d13 := dk1.trans (Ma.below hB1 fun q e => by subst e; omega)
            have K13 := KK1.mv Ma (by omega)
            clear TR
            go_wp2_with fail
            go_meet
            exact ⟨Fp, _, Aa, ca, _, since, 0, _, D', rfl, rfl, rfl, d13, TLa, hFp, hDl, K13, oa, by omega, .inl ⟨rfl, by have := TMs.out; rwa [if_pos ho] at this⟩⟩
          · go_wp2_with fail
            refine (TR.out).mono ?_
            rintro e w13 ⟨Aa, ca, rfl, oa, Ma, TLa⟩
            have d13 := dk1.trans (Ma.below hB1 fun q e => by subst e; omega)
            have K13 := KK1.mv Ma (by omega)
            clear TR
            go_wp2_with fail
            go_meet
            exact ⟨Fp, _, Aa, ca, _, since, op, _, D', rfl, rfl, rfl, d13, TLa, hFp, hDl, K13, oa, by omega, .inl ⟨rfl, by have := TMs.out; rwa [if_neg (by omega)] at this⟩⟩
      by_cases z1 : kd = 1
      · subst z1
        have TR := TK1.tick
        rcases (hTr.out).tick (t := t) (by omega) with ⟨x1, x2⟩ | ⟨x1, x2⟩
        · rw [show outT v1 (Tp.bytesS D' v1 ws) (Tp.tickS t s) = [⟨(Cob.pdo v1 : Int), false, (Mp.gatherS D' ws).1⟩] by unfold outT; rw [if_pos x1, HBs.2]; rfl] at TR
          have TMs := Lib.hid (show Tp.Tm inh (stT inh ev (Tp.tickS t s)) 0 (-1) by unfold stT; rw [if_pos x1]; exact Tp.Tm.sent hinh _)
          unfold TlOut at TR
          replace TR := Lib.hid TR
          have X2 := Lib.hid x2
          clear x1 x2 HBs TK1
          by_cases ho : 0 ≤ op
          · go_wp2_with fail
            refine (TR.out).mono ?_
            rintro e w13 ⟨Aa, ca, rfl, oa, Ma, TLa⟩
            have d13 := dk1.trans (Ma.below hB1 fun q e => by subst e; omega)
            have K13 := KK1.mv Ma (by omega)
            clear TR
            go_wp2_with fail
            go_meet
            exact ⟨Fp, _, Aa, ca, _, since + 1, op + 1, _, D', rfl, rfl, rfl, d13, TLa, hFp, hDl, K13, oa, by omega, .inr ⟨rfl, X2.out, TMs.out⟩⟩
          · go_wp2_with fail
            refine (TR.out).mono ?_
            rintro e w13 ⟨Aa, ca, rfl, oa, Ma, TLa⟩
            have d13 := dk1.trans (Ma.below hB1 fun q e => by subst e; omega)
            have K13 := KK1.mv Ma (by omega)
            clear TR
            go_wp2_with fail
            go_meet
            exact ⟨Fp, _, Aa, ca, _, since + 1, op, _, D', rfl, rfl, rfl, d13, TLa, hFp, hDl, K13, oa, by omega, .inr ⟨rfl, X2.out, TMs.out⟩⟩
        · rw [show outT v1 (Tp.bytesS D' v1 ws) (Tp.tickS t s) = [] by unfold outT; rw [if_neg (by rw [x1]; simp)]] at TR
          have TMs := Lib.hid (show Tp.Tm inh (stT inh ev (Tp.tickS t s)) (since + 1) (if 0 ≤ op then op + 1 else op) by unfold stT; rw [if_neg (by rw [x1]; simp)]; exact x2)
          unfold TlOut at TR
          replace TR := Lib.hid TR
          clear x1 x2 HBs TK1
          by_cases ho : 0 ≤ op
          · go_wp2_with fail
            refine (TR.out).mono ?_
            rintro e w13 ⟨Aa, ca, rfl, oa, Ma, TLa⟩
            have d13 := dk1.trans (Ma.below hB1 fun q e => by subst e; omega)
            have K13 := KK1.mv Ma (by omega)
            clear TR
            go_wp2_with fail
            go_meet
            exact ⟨Fp, _, Aa, ca, _, since + 1, op + 1, _, D', rfl, rfl, rfl, d13, TLa, hFp, hDl, K13, oa, by omega, .inl ⟨rfl, by have := TMs.out; rwa [if_pos ho] at this⟩⟩
          · go_wp2_with fail
            refine (TR.out).mono ?_
            rintro e w13 ⟨Aa, ca, rfl, oa, Ma, TLa⟩
            have d13 := dk1.trans (Ma.below hB1 fun q e => by subst e; omega)
            have K13 := KK1.mv Ma (by omega)
            clear TR
            go_wp2_with fail
            go_meet
            exact ⟨Fp, _, Aa, ca, _, since + 1, op, _, D', rfl, rfl, rfl, d13, TLa, hFp, hDl, K13, oa, by omega, .inl ⟨rfl, by have := TMs.out; rwa [if_neg (by omega)] at this⟩⟩
      by_cases z2 : kd = 2
      · subst z2
        have TR := TK1.pulse
        rw [Tp.pulse_no (by omega) s, outT_no, stT_no] at TR
        unfold TlOut at TR
        replace TR := Lib.hid TR
        clear HBs TK1
        go_wp2_with fail
        refine (TR.out).mono ?_
        rintro e w13 ⟨Aa, ca, rfl, oa, Ma, TLa⟩
        have d13 := dk1.trans (Ma.below hB1 fun q e => by subst e; omega)
        have K13 := KK1.mv Ma (by omega)
        clear TR
        go_wp2_with fail
        go_meet
        exact ⟨Fp, _, Aa, ca, _, since, op, _, D', rfl, rfl, rfl, d13, TLa, hFp, hDl, K13, oa, by omega, .inl ⟨rfl, hTr.out⟩⟩
      by_cases z4 : kd = 4
      · subst z4
        have TR := Lib.hid (TK1.poke ix sb hrb1 hB1 hn')
        clear HBs TK1
        go_wp2_with fail
        refine (TR.out).mono ?_
        rintro e w13 ⟨rfl, Ma, TLa⟩
        have d13 := dk1.trans (Ma.below hB1 fun q e => by have := hFp q e; omega)
        have K13 := KK1.mv Ma (fun e => by have := hFp _ e; omega)
        clear TR
        go_wp2_with fail
        go_meet
        exact ⟨_, [], none, 0, 0, since, op, s, _, rfl, rfl, rfl, d13, TLa, fun q hq => by
          rcases hq with hq | hq
          · exact hFp q hq
          · have := KK1.lt; omega, (Dc.poke_l _ _ _ _).trans hDl, K13, OS.none_ _ _ _ _, by omega, .inl ⟨rfl, hTr.out⟩⟩
      · have e0' : (kd == 0) = false := by simpa using z0
        have e1' : (kd == 1) = false := by simpa using z1
        have e2' : (kd == 2) = false := by simpa using z2
        have e4' : (kd == 4) = false := by simpa using z4
        clear z0 z1 z2 z4
        go_wp2_with fail
        go_meet
        exact ⟨Fp, [], none, 0, 0, since, op, s, D', rfl, rfl, rfl, dk1, TK1, hFp, hDl, KK1, OS.none_ _ _ _ _, by omega, .inl ⟨rfl, hTr.out⟩⟩
    case rest =>
      clear TK TK1 hrb hrb1 KK KK1 FP KP ba q0 q1 q2 q3 FC dk dk1 hB1 hTr hp1 HBs hFp hDl hsn TM hinh1 hinh2 hinh3
      obtain ⟨Fp', L, A, c, base, since', op', s', D'', rfl, rfl, rfl, dc, TC, hFp', hDl', KC, oc, hsn', hL⟩ := hcut
      obtain ⟨wd, hwd⟩ : ∃ w, w = wc := ⟨wc, rfl⟩
      subst hwd
      have FC := KC.seven
      rcases hL with ⟨rfl, hT⟩ | ⟨rfl, hT, hT2⟩
      · have hop := hT.le
        have HT := Lib.hid hT
        clear hT oc
        go_wp2_with fail
        go_roundw
        case rel => exact ⟨k + 1, Fp', since', op', s', D'', by omega, by omega, by go_num, rfl, rfl, dc, TC, hFp', hDl', by rw [← HCS.out]; exact KC, by omega, HT.out⟩
        case measure => simp [intOf] <;> omega
      · have hg0 := (HB.out D'' TC.fine hDl' TC.right).1
        have GA := TC.gather (h1.below dc) dc.size
        unfold PackPost at GA
        rw [hg0] at GA
        obtain ⟨q, oo', cs', rfl, hq, ⟨A2', n2', c2', rfl, ow⟩, hc⟩ := RS.at_ oc.rs (i := 0) (by decide) (f := ⟨(Cob.pdo v1 : Int), false, (Mp.gatherS D'' ws).1⟩) rfl
        have q0 := hc 0 _ (by decide) rfl
        have q1 := hc 1 _ (by decide) rfl
        have q2 := hc 2 _ (by decide) rfl
        have hcv : 1 ≤ c ∧ c ≤ 9223372036854775807 := by obtain ⟨zs, z1, _⟩ := oc; exact ⟨z1.rv.le, z1.rv.cap⟩
        obtain ⟨hcv1, hcv2⟩ := hcv
        simp only [Nat.zero_mul, Nat.add_zero] at q0 q1 q2
        have owr := ow.rb
        have hT2' := Lib.hid hT2
        clear hT2 oc hc ow
        generalize (Mp.gatherS D'' ws).1 = gl at *
        replace GA := Lib.hid GA
        go_wp2_with fail
        refine (GA.out).mono ?_
        rintro e we ⟨Ag, cg, rfl, og, be⟩
        have de := below_step dc be (Nat.le_refl _)
        have TE := TC.below be
        have KE := KC.later be
        have FE := KE.seven
        have g0 := cell_regrown ((be.cell hq).trans q0)
        have g1 := cell_regrown ((be.cell hq).trans q1)
        have g2 := cell_regrown ((be.cell hq).trans q2)
        have gi := cell_regrown FE.1.2.2.2.1
        have e1 := convb_grow (owr.below be) be.size
        have e2 := convb_grow og.rb (Nat.le_refl _)
        have hdec : decide (since' < inh) = false := decide_eq_false (by omega)
        have IDq := Lib.hid (fun d os => Calls.grown_same ((TE.below (below_regrown we d os)).id))
        go_wp2_with fail
        refine wp_region_quiet_below (by kernel_rfl) (by kernel_rfl) ?_
        repeat (go_big_quiet_step (first | with_reducible exact IDq.out _ _))
        refine wpQuiet_nil ?_
        intro _ hw'
        obtain ⟨⟨dq, osq⟩, hw''⟩ := hw'
        subst hw''
        dsimp only
        have bq := below_regrown we dq osq
        have df := below_step de bq (Nat.le_refl _)
        have TF := TE.below bq
        have KF := KE.later bq
        generalize grow (redrawn we dq) osq = wf at *
        have FF := KF.seven
        clear g0 g1 g2 gi e1 e2 IDq FE FC KE TE
        go_wp2_with fail
        go_roundw
        case rel => exact ⟨k + 1, Fp', 0, -1, _, D'', by omega, by omega, by go_num, rfl, rfl, df, TF, hFp', hDl', by rw [← HCS.out]; exact KF, by omega, hT2'.out⟩
        case measure => simp [intOf] <;> omega
end Go.Proofs.Ytbmocffnnlfnjaa
