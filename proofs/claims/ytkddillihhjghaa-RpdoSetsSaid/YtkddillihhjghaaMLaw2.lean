/-
  Walk: RpdoSets.
  Conditions: none.
-/
import Derived.Test.YtkddillihhjghaaJ04
import Derived.Test.YtkddillihhjghaaJ15
import Derived.Test.YtkddillihhjghaaJ16
namespace Go.Proofs.Ytkddillihhjghaa
set_option linter.unusedVariables false
set_option linter.unusedSimpArgs false
open Go.ChangeShapes Go.WideShapes Go.ChangeAt Go.RowKit Go.Sort
theorem VlW.vlc31 {w : World} {base : Nat} {f : Dc.Vl} {cs : List Value} (h : VlW w base f cs) : VlC w w.heap.size f cs := by
  obtain ⟨A, n, c, h1, h2⟩ := h
  exact ⟨A, n, c, h1, h2.rb⟩
theorem recv_new {l : List Ent.En} {v : Nat} {t : Int} {ws : List Nat} {b : List UInt8} (h1 : Cob.pdo v ≠ 0) (h4 : ws.length ≠ 0) {sl : List Dc.Vl} {se : Int} (hs : Mp.scatterS l ws b = (sl, se)) : Rp.recvS l v t ws [] (Cob.pdo v : Int) false b = if se = 0 then (if t ≤ 240 then ([], 0, sl) else (sl, 0, [])) else if se = 2 then ([], 33296, []) else if se = 9 then ([], 25344, []) else ([], 0, []) := by
  unfold Rp.recvS
  rw [if_neg (by simp [h1, h4]), hs]
set_option maxRecDepth 100000 in
set_option maxHeartbeats 8000000 in
theorem RpdoSets_walk (W : World) {A0 A1 A2 A3 : Option Addr} {n0 c0 n1 c1 n2 c2 n3 c3 v1 : Nat} {t : Int} {es : List Ent.En} {ws : List Nat} {ops : List ROp} {bs : List UInt8} (h0 : REn W W.heap.size W.heap.size A0 n0 c0 es) (hnm : ∀ e ∈ es, e.name.length ≤ 9223372036854775807) (hv : v1 < 4294967296) (h1 : RW W W.heap.size A1 n1 c1 ws) (hwl : ∀ x ∈ ws, x < 4294967296) (wt : (Lit.int .i64 t).wf = true) (h2 : ROps W W.heap.size W.heap.size A2 n2 c2 ops) (h3 : RB W W.heap.size A3 n3 c3 bs) :
    Calls Try.prog 3 #[.agg #[.slice A0 n0 c0, .int .u32 (v1 : Int), .int .i64 t, .slice A1 n1 c1, .slice A2 n2 c2], .slice A3 n3 c3] W fun e W' => e = .returned (.bool true) ∧ Below W.heap.size W W' := by
  have b0 := alloc_one W (.cells #[.slice A0 n0 c0, .int .u32 (v1 : Int), .int .i64 t, .slice A1 n1 c1, .slice A2 n2 c2] 29)
  have K := Blk.new W 29 #[.slice A0 n0 c0, .int .u32 (v1 : Int), .int .i64 t, .slice A1 n1 c1, .slice A2 n2 c2]
  have K5 := K.five
  have LI := Lib.hid (light31_any (A1 := A1) (n1 := n1) (c1 := c1) v1 t _ (h0.below b0 (Nat.le_refl _)) hnm (h2.below b0 (Nat.le_refl _)) b0.size)
  have hl1 := h1.len
  subst hl1
  go_enter Try.func3, Try.ntmps3
  go_wp2_with fail
  refine (LI.out).mono ?_
  rintro e w1 ⟨bl, rfl, b1, hbl⟩
  have d1 := below_step b0 b1 (Nat.le_refl _)
  have K1 := K.later b1
  have F1 := K1.five
  clear K5 K b0 b1 LI
  cases bl
  · clear hbl
    go_wp2_with fail
    refine (known31_any _).mono ?_
    rintro e w9 ⟨rfl, b9⟩
    go_wp2_with fail
    go_ret
    exact ⟨rfl, below_step d1 b9 (Nat.le_refl _)⟩
  · obtain ⟨_, hes, hn100, _⟩ := hbl rfl
    clear hbl
    by_cases h8 : 8 < n3
    · go_wp2_with fail
      refine (known31_any _).mono ?_
      rintro e w9 ⟨rfl, b9⟩
      go_wp2_with fail
      go_ret
      exact ⟨rfl, below_step d1 b9 (Nat.le_refl _)⟩
    · have ND := dNew_any w1 (h0.below d1 (Nat.le_refl _)) d1.size (Nat.le_refl _) (fun e he => by have := hes e he; omega)
      unfold NewPost at ND
      have hdd : ∀ e ∈ es, e.dflt.length ≤ 1000000 := fun e he => by have := hes e he; omega
      clear hes hnm
      generalize hD : (⟨es, es.map (·.dflt)⟩ : Dc.Dic) = D at *
      have hDl : es = D.l := by rw [← hD]
      rw [hDl] at hdd
      clear hD hDl h0 h2
      generalize Dc.newS es = nn at *
      obtain ⟨ne, np⟩ := nn
      dsimp only at ND
      replace ND := Lib.hid ND
      by_cases hne : ne = 0
      · subst hne
        go_wp2_with fail
        refine (ND.out).mono ?_
        rintro e w2 (⟨_, b2, g, gv, lc, vc, la, vA, xs, vs, rfl, hd⟩ | ⟨hx, _⟩)
        case inr => exact absurd rfl hx
        replace hd := hd.cut
        have hright := hd.right
        have hW2 : W.heap.size < w2.heap.size := (K1.later b2).lt
        have d2 := below_step d1 b2 (Nat.le_refl _)
        have K2 := K1.later b2
        have F2 := K2.five
        have GV := Lib.hid (fun w => given31_any v1 t A1 ws.length c1 w)
        have hgb : ∀ q, (w1.heap.size ≤ q ∧ q < w2.heap.size) → q < w2.heap.size := fun q h => h.2
        clear F1 K1 b2 ND
        go_wp2_with fail
        refine (GV.out _).mono ?_
        rintro e w3 ⟨rfl, b3⟩
        have d3 := below_step d2 b3 (Nat.le_refl _)
        have K3 := K2.later b3
        have F3 := K3.five
        have RN := RpNew_any v1 hv t (hd.below b3) hdd (h1.below d3) hwl d3.size
        unfold RNewP at RN
        have hcp := Rp.check_parts (l := D.l) (w := v1) (t := t) (ws := ws)
        generalize Rp.checkS D.l v1 t ws = ck at *
        replace RN := Lib.hid RN
        clear F2 K2 GV
        by_cases hck : ck = 0
        · subst hck
          obtain ⟨_, hkind, hmc⟩ := hcp rfl
          clear hcp
          go_wp2_with fail
          refine (RN.out).mono ?_
          rintro e w4 (⟨_, b4, p, gp, Aw, cw, rfl, hp⟩ | ⟨hx, _⟩)
          case inr => exact absurd rfl hx
          have d4 := below_step d3 b4 (Nat.le_refl _)
          have K4 := K3.later b4
          have F4 := K4.five
          have hpg := hp.gb
          have ID := Lib.hid (RpId_any hp.blk)
          clear F3 K3 RN
          by_cases hpd : Cob.pdo v1 = 0
          · have e0 : (Cob.pdo v1 : Int) = 0 := by omega
            rw [e0] at ID
            clear e0 hpd
            go_wp2_with fail
            refine (ID.out).mono ?_
            rintro e _ ⟨rfl, rfl⟩
            go_wp2_with fail
            refine (known31_any _).mono ?_
            rintro e w9 ⟨rfl, b9⟩
            go_wp2_with fail
            go_ret
            exact ⟨rfl, below_step d4 b9 (Nat.le_refl _)⟩
          · have e1 : ((Cob.pdo v1 : Int) == 0) = false := by rw [beq_eq_false_iff_ne]; omega
            by_cases hws : ws.length = 0
            · have e2 : ((ws.length : Int) == 0) = true := by rw [hws]; rfl
              clear hpd
              generalize (Cob.pdo v1 : Int) = P at *
              go_wp2_with fail
              refine (ID.out).mono ?_
              rintro e _ ⟨rfl, rfl⟩
              go_wp2_with fail
              refine (known31_any _).mono ?_
              rintro e w9 ⟨rfl, b9⟩
              go_wp2_with fail
              go_ret
              exact ⟨rfl, below_step d4 b9 (Nat.le_refl _)⟩
            · have e2 : ((ws.length : Int) == 0) = false := by rw [beq_eq_false_iff_ne]; omega
              have b24 := below_step b3 b4 (Nat.le_refl _)
              have hd4 := hd.below b24
              have hz2 := b3.size
              have hnp : ∀ q, q < w2.heap.size → ¬ q = p := fun q h e => by omega
              have hWp : W.heap.size < p := by omega
              have IDX := Lib.hid (fun (w : World) (hb : Below w4.heap.size w4 w) => RpId_any ((hp.below hb).blk))
              have SC := Scatter_any hd4 hdd (h1.below d4) hwl d4.size (h3.below d4) (by omega) d4.size
              have hsc := Mp.scatter_code (l := D.l) (ws := ws) hright hmc bs
              have hrn := fun sl se => recv_new (l := D.l) (v := v1) (t := t) (ws := ws) (b := bs) hpd hws (sl := sl) (se := se)
              have RC := fun (w5 : World) (hb : Below w4.heap.size w4 w5) => Recv_on (hp.below hb) (hd4.below hb) hdd hwl (h3.below (below_step d4 hb (Nat.le_refl _))) (Nat.le_trans d4.size hb.size) (by omega) hpd hws
              unfold ScatPost at SC
              generalize Rp.recvS D.l v1 t ws [] (Cob.pdo v1 : Int) false bs = r at *
              generalize Mp.scatterS D.l ws bs = sc at *
              obtain ⟨sl, se⟩ := sc
              have hrr := hrn sl se rfl
              unfold RecvP at RC
              obtain ⟨xl, xc, yl⟩ := r
              dsimp only at SC hsc RC
              have HRR := Lib.hid hrr
              have HSC := Lib.hid hsc
              replace SC := Lib.hid SC; replace RC := Lib.hid RC
              have hws' := Lib.hid hws
              clear hrn hrr hsc hd hd4 hright hmc hdd hpd h1 h3
              generalize (Cob.pdo v1 : Int) = P at *
              go_wp2_with fail
              refine (ID.out).mono ?_
              rintro e _ ⟨rfl, rfl⟩
              go_wp2_with fail
              refine (SC.out).mono ?_
              rintro e w5 ⟨Al, cl, rfl, ol, b5⟩
              have d5 := below_step d4 b5 (Nat.le_refl _)
              have K5 := K4.later b5
              have hp5 := hp.below b5
              have F5 := K5.five
              clear F4
              go_wp2_with fail
              refine (IDX.out _ b5).mono ?_
              rintro e _ ⟨rfl, rfl⟩
              go_wp2_with fail
              refine (RC.out _ b5).mono ?_
              rintro e w6 ⟨A6, c6, rfl, o6, M6, Av6, cv6, hp6⟩
              have d6 : Below W.heap.size W w6 := d5.trans (M6.below d5.size fun q e => by subst e; omega)
              have K6 := K5.mv M6 (by omega)
              have ol6 := ol.mvg hp5.blk (by decide) (by decide) M6
              have b7 := alloc_one w6 (.cells #[.slice A6 xl.length c6, .int .i64 xc] 47)
              have KO := Blk.new w6 47 #[.slice A6 xl.length c6, .int .i64 xc]
              have hpl : p < w6.heap.size := hp6.blk.lt
              have P7 := Lib.hid (Pulse_any (hp6.below b7))
              have hp7 := hp6.below b7
              have ol7 := ol6.below b7 (R' := VlW _ _) fun _ _ h => h.below b7
              have ox7 := o6.below b7 (R' := VlW _ _) fun _ _ h => h.below b7
              have d7 := below_step d6 b7 (Nat.le_refl _)
              have K7 := K6.later b7
              clear F5 K5 K6 o6 ol ol6 RC SC ID IDX hp5
              go_wp2_with fail
              refine (P7.out).mono ?_
              unfold PulseP
              rintro e w8 ⟨A8, c8, rfl, o8, M8, hp8⟩
              have d8 : Below W.heap.size W w8 := d7.trans (M8.below d7.size fun q e => by subst e; omega)
              have K8 := K7.mv M8 (by omega)
              have KO8 := KO.mv M8 (by omega)
              have ol8 := ol7.mvg hp7.blk (by decide) (by decide) M8
              have ox8 := ox7.mvg hp7.blk (by decide) (by decide) M8
              have P8 := Lib.hid (Pulse_any hp8)
              clear P7 KO K7 ol7 ox7 hp7 hp6
              go_wp2_with fail
              refine (P8.out).mono ?_
              unfold PulseP
              rintro e w9 ⟨A9, c9, rfl, o9, M9, hp9⟩
              have d9 : Below W.heap.size W w9 := d8.trans (M9.below d8.size fun q e => by subst e; omega)
              have KKb := K8.mv M9 (by omega)
              have KOb := KO8.mv M9 (by omega)
              have K9 := KKb.five
              have KO9 := KOb.two
              have ol9 := ol8.mvg hp8.blk (by decide) (by decide) M9
              have ox9 := ox8.mvg hp8.blk (by decide) (by decide) M9
              have oy9 := o8.mvg hp8.blk (by decide) (by decide) M9
              clear P8 KO8 K8 ol8 ox8 o8 o9 hp8 hp9 M6 M8 M9 b7 hp
              rcases HSC.out with ⟨hs0, hs1⟩ | ⟨hs0, hs1⟩
              · subst hs0
                have hrr := HRR.out
                simp only [if_true] at hrr
                have hl5 : ((sl.length : Int) == (ws.length : Int)) = true := by rw [beq_iff_eq]; omega
                clear hs1
                by_cases ht : t ≤ 240
                · rw [if_pos ht] at hrr
                  simp only [Prod.mk.injEq] at hrr
                  obtain ⟨rfl, rfl, rfl⟩ := hrr
                  have SM := Lib.hid (VSame_any w9 (show RVl w9 w9.heap.size w9.heap.size A8 yl.length c8 yl from oy9.rs.imp fun _ _ h => h.vlc31) (show RVl w9 w9.heap.size w9.heap.size Al yl.length cl yl from ol9.rs.imp fun _ _ h => h.vlc31) (Nat.le_refl _) (Nat.le_refl _) (Nat.le_refl _) (Nat.le_refl _))
                  have h254 : ¬ 254 ≤ t := by omega
                  clear ol9 ox9 oy9 HRR HSC
                  go_wp2_with fail
                  refine (SM.out).mono ?_
                  rintro e w10 ⟨rfl, b10⟩
                  have d10 := below_step d9 b10 (Nat.le_refl _)
                  have KW := KOb.later b10
                  have KV := KKb.later b10
                  have FO := KW.two
                  have FV := KV.five
                  clear KO9 K9 SM
                  go_wp2_with fail
                  refine (known31_any _).mono ?_
                  rintro e w11 ⟨rfl, b11⟩
                  go_wp2_with fail
                  go_ret
                  exact ⟨rfl, below_step d10 b11 (Nat.le_refl _)⟩
                · rw [if_neg ht] at hrr
                  simp only [Prod.mk.injEq] at hrr
                  obtain ⟨rfl, rfl, rfl⟩ := hrr
                  have SM := Lib.hid (VSame_any w9 (show RVl w9 w9.heap.size w9.heap.size A6 xl.length c6 xl from ox9.rs.imp fun _ _ h => h.vlc31) (show RVl w9 w9.heap.size w9.heap.size Al xl.length cl xl from ol9.rs.imp fun _ _ h => h.vlc31) (Nat.le_refl _) (Nat.le_refl _) (Nat.le_refl _) (Nat.le_refl _))
                  have h254 : 254 ≤ t := by unfold Rp.kindB at hkind; have := of_decide_eq_true hkind; omega
                  clear ol9 ox9 oy9 HRR HSC
                  go_wp2_with fail
                  refine (SM.out).mono ?_
                  rintro e w10 ⟨rfl, b10⟩
                  have d10 := below_step d9 b10 (Nat.le_refl _)
                  have KW := KOb.later b10
                  have KV := KKb.later b10
                  have FO := KW.two
                  have FV := KV.five
                  clear KO9 K9 SM
                  go_wp2_with fail
                  refine (known31_any _).mono ?_
                  rintro e w11 ⟨rfl, b11⟩
                  go_wp2_with fail
                  go_ret
                  exact ⟨rfl, below_step d10 b11 (Nat.le_refl _)⟩
              · subst hs0
                have hrr := HRR.out
                have hse0 : ¬ se = 0 := by omega
                have z1 : (se == 0) = false := by simpa using hse0
                have z2 : (se != 0) = true := by simpa using hse0
                have hx : xl = [] ∧ yl = [] ∧ (xc != 0) = true := by
                  rw [if_neg hse0] at hrr
                  rcases hs1 with h | h
                  · rw [if_pos h] at hrr
                    simp only [Prod.mk.injEq] at hrr
                    exact ⟨hrr.1, hrr.2.2, by rw [hrr.2.1]; rfl⟩
                  · rw [if_neg (by omega), if_pos h] at hrr
                    simp only [Prod.mk.injEq] at hrr
                    exact ⟨hrr.1, hrr.2.2, by rw [hrr.2.1]; rfl⟩
                obtain ⟨rfl, rfl, hxc⟩ := hx
                clear hs1 hrr hse0 HRR HSC ol9 ox9 oy9
                go_wp2_with fail
                refine (known31_any _).mono ?_
                rintro e w11 ⟨rfl, b11⟩
                go_wp2_with fail
                go_ret
                exact ⟨rfl, below_step d9 b11 (Nat.le_refl _)⟩
        · have hck2 : (ck == 0) = false := by simpa using hck
          have hck3 : (ck != 0) = true := by simpa using hck
          have HCK := Lib.hid hck
          clear hcp hck
          go_wp2_with fail
          refine (RN.out).mono ?_
          rintro e w4 (⟨hx, _⟩ | ⟨_, b4, rfl⟩)
          case inl => exact absurd hx HCK.out
          have d4 := below_step d3 b4 (Nat.le_refl _)
          go_wp2_with fail
          refine (known31_any _).mono ?_
          rintro e w9 ⟨rfl, b9⟩
          go_wp2_with fail
          go_ret
          exact ⟨rfl, below_step d4 b9 (Nat.le_refl _)⟩
      · have hne2 : (ne == 0) = false := by simpa using hne
        have hne3 : (ne != 0) = true := by simpa using hne
        have HNE := Lib.hid hne
        clear hne
        go_wp2_with fail
        refine (ND.out).mono ?_
        rintro e w2 (⟨hx, _⟩ | ⟨_, b2, rfl⟩)
        case inl => exact absurd hx HNE.out
        have d2 := below_step d1 b2 (Nat.le_refl _)
        go_wp2_with fail
        refine (known31_any _).mono ?_
        rintro e w9 ⟨rfl, b9⟩
        go_wp2_with fail
        go_ret
        exact ⟨rfl, below_step d2 b9 (Nat.le_refl _)⟩
end Go.Proofs.Ytkddillihhjghaa
