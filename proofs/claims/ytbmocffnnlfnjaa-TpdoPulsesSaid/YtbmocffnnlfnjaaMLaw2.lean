/-
  Walk: TpdoPulses.
  Conditions: none.
-/
import Derived.Test.YtbmocffnnlfnjaaJ04
import Derived.Test.YtbmocffnnlfnjaaJ16
import Derived.Test.YtbmocffnnlfnjaaJ17
namespace Go.Proofs.Ytbmocffnnlfnjaa
set_option linter.unusedVariables false
set_option linter.unusedSimpArgs false
open Go.ChangeShapes Go.WideShapes Go.ChangeAt Go.RowKit Go.Sort
theorem frames_len (v : Nat) (o : Option (List UInt8)) : (framesS v o).length = if o = none then 0 else 1 := by cases o <;> rfl
set_option maxRecDepth 100000 in
set_option maxHeartbeats 8000000 in
theorem TpdoPulses_walk (W : World) {A0 A1 A2 : Option Addr} {n0 c0 n1 c1 n2 c2 v1 : Nat} {t inh ev : Int} {es : List Ent.En} {ws : List Nat} {ops : List TOp} (h0 : REn W W.heap.size W.heap.size A0 n0 c0 es) (hnm : ∀ e ∈ es, e.name.length ≤ 9223372036854775807) (hv : v1 < 4294967296) (h1 : RW W W.heap.size A1 n1 c1 ws) (hwl : ∀ x ∈ ws, x < 4294967296) (wt : (Lit.int .i64 t).wf = true ∧ (Lit.int .i64 inh).wf = true ∧ (Lit.int .i64 ev).wf = true) (h2 : TOps W W.heap.size W.heap.size A2 n2 c2 ops) (a : Int) (wa : (Lit.int .u8 a).wf = true) :
    Calls Try.prog 3 #[.agg #[.slice A0 n0 c0, .int .u32 (v1 : Int), .int .i64 t, .int .i64 inh, .int .i64 ev, .slice A1 n1 c1, .slice A2 n2 c2], .int .u8 a] W fun e W' => e = .returned (.bool true) ∧ Below W.heap.size W W' := by
  obtain ⟨ha1, ha2⟩ := bounds_u8 wa
  obtain ⟨m, rfl⟩ := Int.eq_ofNat_of_zero_le ha1
  have hrem : Int.tmod (m : Int) 240 = ((m % 240 : Nat) : Int) := by rw [Int.tmod_eq_emod_of_nonneg (by omega)]; omega
  have hml : m % 240 < 240 := Nat.mod_lt _ (by omega)
  generalize m % 240 = mm at *
  have b0 := alloc_one W (.cells #[.slice A0 n0 c0, .int .u32 (v1 : Int), .int .i64 t, .int .i64 inh, .int .i64 ev, .slice A1 n1 c1, .slice A2 n2 c2] 29)
  have K := Blk.new W 29 #[.slice A0 n0 c0, .int .u32 (v1 : Int), .int .i64 t, .int .i64 inh, .int .i64 ev, .slice A1 n1 c1, .slice A2 n2 c2]
  have F0 := K.seven
  have LI := Lib.hid (light32_any (A1 := A1) (n1 := n1) (c1 := c1) v1 t inh ev _ (h0.below b0 (Nat.le_refl _)) hnm (h2.below b0 (Nat.le_refl _)) b0.size)
  have hl1 := h1.len
  subst hl1
  go_enter Try.func3, Try.ntmps3
  go_wp2_with fail
  refine (LI.out).mono ?_
  rintro e w1 ⟨bl, rfl, b1, hbl⟩
  have d1 := below_step b0 b1 (Nat.le_refl _)
  have K1 := K.later b1
  have F1 := K1.seven
  clear F0 K b0 b1 LI
  cases bl
  · clear hbl
    go_wp2_with fail
    refine (known32_any _).mono ?_
    rintro e w9 ⟨rfl, b9⟩
    go_wp2_with fail
    go_ret
    exact ⟨rfl, below_step d1 b9 (Nat.le_refl _)⟩
  obtain ⟨_, hes, hn100, _⟩ := hbl rfl
  clear hbl
  have K2 := K1.set_ 2 (.int .i64 (1 + (mm : Int)))
  have d2 := d1.setCell (p := ⟨W.heap.size, 2, none⟩) (Nat.le_refl _) (.int .i64 (1 + (mm : Int)))
  have ND := dNew_any (w1.setCell ⟨W.heap.size, 2, none⟩ (.int .i64 (1 + (mm : Int)))) (h0.below d2 (Nat.le_refl _)) d2.size (Nat.le_refl _) (fun e he => by have := hes e he; omega)
  unfold NewPost at ND
  have hfine : (Dc.newS es).1 = 0 → Dc.Fine ⟨es, es.map (·.dflt)⟩ := fun h => Dc.Fine.new h (fun e he => by have := hes e he; omega)
  have hdd : ∀ e ∈ es, e.dflt.length ≤ 1000000 := fun e he => by have := hes e he; omega
  clear hes hnm h2
  generalize hD : (⟨es, es.map (·.dflt)⟩ : Dc.Dic) = D at *
  have hDl : es = D.l := by rw [← hD]
  rw [hDl] at hdd
  clear hD hDl h0
  generalize Dc.newS es = nn at *
  obtain ⟨ne, np⟩ := nn
  dsimp only at ND hfine
  replace ND := Lib.hid ND
  by_cases hne : ne = 0
  case neg =>
    have hne2 : (ne == 0) = false := by simpa using hne
    have hne3 : (ne != 0) = true := by simpa using hne
    have HNE := Lib.hid hne
    clear hne
    go_wp2_with fail
    refine (ND.out).mono ?_
    rintro e w2 (⟨hx, _⟩ | ⟨_, b2, rfl⟩)
    case inl => exact absurd hx HNE.out
    have d3 := below_step d2 b2 (Nat.le_refl _)
    go_wp2_with fail
    refine (known32_any _).mono ?_
    rintro e w9 ⟨rfl, b9⟩
    go_wp2_with fail
    go_ret
    exact ⟨rfl, below_step d3 b9 (Nat.le_refl _)⟩
  subst hne
  go_wp2_with fail
  refine (ND.out).mono ?_
  rintro e w2 (⟨_, b2, gd, gv, lc, vc, la, vA, xs, vs, rfl, hd⟩ | ⟨hx, _⟩)
  case inr => exact absurd rfl hx
  replace hd := hd.cut
  replace hfine := hfine (by trivial)
  have hright := hd.right
  have d3 := below_step d2 b2 (Nat.le_refl _)
  have K3 := K2.later b2
  have F3 := K3.seven
  have hz3 : W.heap.size ≤ w2.heap.size := d3.size
  generalize hw1' : w1.setCell ⟨W.heap.size, 2, none⟩ (.int .i64 (1 + (mm : Int))) = w1' at *
  have hz1' : W.heap.size ≤ w1'.heap.size := d2.size
  clear F1 K1 K2 ND d1 d2 b2 hw1'
  have GV := Lib.hid (fun w => given32_any v1 (1 + (mm : Int)) inh ev A1 ws.length c1 w)
  go_wp2_with fail
  refine (GV.out _).mono ?_
  rintro e w3 ⟨rfl, b3⟩
  have d4 := below_step d3 b3 (Nat.le_refl _)
  have K4 := K3.later b3
  have F4 := K4.seven
  have RN := TpNew_any v1 hv (1 + (mm : Int)) inh ev (hd.below b3) hdd (h1.below d4) hwl d4.size
  unfold TNewP at RN
  have hcp := Tp.check_parts (l := D.l) (w := v1) (t := 1 + (mm : Int)) (inh := inh) (ev := ev) (ws := ws)
  generalize Tp.checkS D.l v1 (1 + (mm : Int)) inh ev ws = ck at *
  replace RN := Lib.hid RN
  clear F3 K3 GV
  by_cases hck : ck = 0
  case neg =>
    have hck2 : (ck == 0) = false := by simpa using hck
    have hck3 : (ck != 0) = true := by simpa using hck
    have HCK := Lib.hid hck
    clear hcp hck
    go_wp2_with fail
    refine (RN.out).mono ?_
    rintro e w4 (⟨hx, _⟩ | ⟨_, b4, rfl⟩)
    case inl => exact absurd hx HCK.out
    have d5 := below_step d4 b4 (Nat.le_refl _)
    go_wp2_with fail
    refine (known32_any _).mono ?_
    rintro e w9 ⟨rfl, b9⟩
    go_wp2_with fail
    go_ret
    exact ⟨rfl, below_step d5 b9 (Nat.le_refl _)⟩
  subst hck
  obtain ⟨_, hkind, hmc⟩ := hcp rfl
  clear hcp
  go_wp2_with fail
  refine (RN.out).mono ?_
  rintro e w4 (⟨_, b4, p, Aw, cw, rfl, hp⟩ | ⟨hx, _⟩)
  case inr => exact absurd rfl hx
  have d5 := below_step d4 b4 (Nat.le_refl _)
  have K5 := K4.later b4
  have F5 := K5.seven
  have hz34 := b3.size
  have TL0 := Tl.new (hd.below b3) (fun q hq => by have := hq.2; omega) b4 hp hfine hdd hwl (Tp.Ok.rest hkind)
  obtain ⟨Fp, TL, hFp⟩ : ∃ Fp : Nat → Prop, Tl w4 Fp p gd v1 (1 + (mm : Int)) inh ev ws (Tp.restS ev) D ∧ ∀ q, Fp q → W.heap.size ≤ q := ⟨_, TL0, fun q hq => by
    rcases hq with hq | hq
    · have := hq.1; omega
    · have := hq.1; omega⟩
  clear TL0 F4 K4 RN hp hd b3 b4
  have hpw := hFp p TL.lt.1
  have ID := Lib.hid TL.id
  have HB := (Tp.bytes_ok v1 hright hfine hmc).2
  have hn0 : ((1 + (mm : Int)) == 0) = false := by rw [beq_eq_false_iff_ne]; omega
  have hcount : (Tp.restS ev).count = (((1 - 1) % (mm + 1) : Nat) : Int) := by rw [Nat.zero_mod]; rfl
  have TL' := Lib.hid TL
  have HC := Lib.hid hcount
  clear TL hcount hright hfine hmc hdd hkind F5
  by_cases hpd : Cob.pdo v1 = 0
  · rw [if_pos (.inl hpd)] at HB
    have e0 : (Cob.pdo v1 : Int) = 0 := by omega
    rw [e0] at ID
    clear e0 hpd
    have F5 := K5.seven
    go_wp2_with fail
    refine (ID.out).mono ?_
    rintro e _ ⟨rfl, rfl⟩
    go_wp2_with fail
    go_loopw [12] (fun i wr => ∃ (k : Nat) (s : Tp.St), 1 ≤ k ∧ k ≤ 100 ∧ i = .int .i64 k ∧ Below W.heap.size W wr ∧ Tl wr Fp p gd v1 (1 + (mm : Int)) inh ev ws s D ∧ s.count = (((k - 1) % (mm + 1) : Nat) : Int)) (fun i _ => 100 - (intOf i).toNat)
    case atStart => exact ⟨1, _, by omega, by omega, rfl, d5, TL'.out, HC.out⟩
    case round =>
      obtain ⟨k, s, hk1, hk2, rfl, dr, TLr, hc⟩ := hrel
      by_cases hlt : k ≤ 2 * (1 + mm) + 1
      · by_cases hlt2 : k < 100
        · obtain ⟨hp1, hp2, _, _⟩ := Tp.pulses (n := 1 + (mm : Int)) (by omega) (by omega) s
          obtain ⟨hr1, hr2⟩ := pulse_round (v := v1) (o := Tp.bytesS D v1 ws) (inh := inh) (ev := ev) (s := s) hml hk1 hc
          have hmod : Int.tmod (k : Int) (1 + (mm : Int)) = ((k % (mm + 1) : Nat) : Int) := by rw [Int.tmod_eq_emod_of_nonneg (by omega)]; rw [Int.natCast_emod]; congr 1; omega
          have TR := TLr.trigger
          rw [hp1, outT_no, stT_no] at TR
          unfold TlOut at TR
          replace TR := Lib.hid TR
          have HP2 := Lib.hid hp2
          have HR1 := Lib.hid hr1
          have HR2 := Lib.hid hr2
          have HCr := Lib.hid hc
          clear TLr hp1 hp2 hr1 hr2 hc
          go_wp2_with fail
          refine (TR.out).mono ?_
          rintro e wa ⟨Aa, ca, rfl, oa, Ma, TLa⟩
          have da : Below W.heap.size W wa := dr.trans (Ma.below dr.size fun q e => by subst e; exact hpw)
          have TR := TLa.tick
          rw [HP2.out, outT_no, stT_no] at TR
          unfold TlOut at TR
          replace TR := Lib.hid TR
          clear TLa oa Ma
          go_wp2_with fail
          refine (TR.out).mono ?_
          rintro e wb ⟨Ab, cb, rfl, ob, Mb, TLb⟩
          have db : Below W.heap.size W wb := da.trans (Mb.below da.size fun q e => by subst e; exact hpw)
          have TR := TLb.pulse
          rw [HR2.out, HB] at TR
          unfold TlOut at TR
          generalize hk0 : k % (mm + 1) = kq at *
          rw [show (if kq = 0 then framesS v1 none else []) = [] by split <;> rfl] at TR
          replace TR := Lib.hid TR
          have HK0 := Lib.hid hk0
          clear hk0 HR2 TLb ob Mb
          go_wp2_with fail
          refine (TR.out).mono ?_
          rintro e wc ⟨Ac, cc, rfl, oc, Mc, TLc⟩
          have dc : Below W.heap.size W wc := db.trans (Mc.below db.size fun q e => by subst e; exact hpw)
          clear oc Mc
          go_wp2_with fail
          go_roundw
          case rel => exact ⟨k + 1, _, by omega, by omega, by go_num, dc, TLc, by rw [HR1.out]; rw [show k + 1 - 1 = k from rfl, HK0.out]⟩
          case measure => simp [intOf] <;> omega
        · obtain rfl : k = 100 := by omega
          clear hc
          go_wp2_with fail
          refine (known32_any _).mono ?_
          rintro e w9 ⟨rfl, b9⟩
          go_wp2_with fail
          go_ret
          exact ⟨rfl, below_step dr b9 (Nat.le_refl _)⟩
      · clear hc
        go_wp2_with fail
        refine (known32_any _).mono ?_
        rintro e w9 ⟨rfl, b9⟩
        go_wp2_with fail
        go_ret
        exact ⟨rfl, below_step dr b9 (Nat.le_refl _)⟩
  by_cases hws : ws.length = 0
  · rw [if_pos (.inr hws)] at HB
    have e0 : ((Cob.pdo v1 : Int) == 0) = false := by rw [beq_eq_false_iff_ne]; omega
    have e1 : ((Cob.pdo v1 : Int) != 0) = true := by rw [bne_iff_ne]; omega
    have F5 := K5.seven
    go_wp2_with fail
    refine (ID.out).mono ?_
    rintro e _ ⟨rfl, rfl⟩
    go_wp2_with fail
    go_loopw [12] (fun i wr => ∃ (k : Nat) (s : Tp.St), 1 ≤ k ∧ k ≤ 100 ∧ i = .int .i64 k ∧ Below W.heap.size W wr ∧ Tl wr Fp p gd v1 (1 + (mm : Int)) inh ev ws s D ∧ s.count = (((k - 1) % (mm + 1) : Nat) : Int)) (fun i _ => 100 - (intOf i).toNat)
    case atStart => exact ⟨1, _, by omega, by omega, rfl, d5, TL'.out, HC.out⟩
    case round =>
      obtain ⟨k, s, hk1, hk2, rfl, dr, TLr, hc⟩ := hrel
      by_cases hlt : k ≤ 2 * (1 + mm) + 1
      · by_cases hlt2 : k < 100
        · obtain ⟨hp1, hp2, _, _⟩ := Tp.pulses (n := 1 + (mm : Int)) (by omega) (by omega) s
          obtain ⟨hr1, hr2⟩ := pulse_round (v := v1) (o := Tp.bytesS D v1 ws) (inh := inh) (ev := ev) (s := s) hml hk1 hc
          have hmod : Int.tmod (k : Int) (1 + (mm : Int)) = ((k % (mm + 1) : Nat) : Int) := by rw [Int.tmod_eq_emod_of_nonneg (by omega)]; rw [Int.natCast_emod]; congr 1; omega
          have TR := TLr.trigger
          rw [hp1, outT_no, stT_no] at TR
          unfold TlOut at TR
          replace TR := Lib.hid TR
          have HP2 := Lib.hid hp2
          have HR1 := Lib.hid hr1
          have HR2 := Lib.hid hr2
          have HCr := Lib.hid hc
          clear TLr hp1 hp2 hr1 hr2 hc
          go_wp2_with fail
          refine (TR.out).mono ?_
          rintro e wa ⟨Aa, ca, rfl, oa, Ma, TLa⟩
          have da : Below W.heap.size W wa := dr.trans (Ma.below dr.size fun q e => by subst e; exact hpw)
          have TR := TLa.tick
          rw [HP2.out, outT_no, stT_no] at TR
          unfold TlOut at TR
          replace TR := Lib.hid TR
          clear TLa oa Ma
          go_wp2_with fail
          refine (TR.out).mono ?_
          rintro e wb ⟨Ab, cb, rfl, ob, Mb, TLb⟩
          have db : Below W.heap.size W wb := da.trans (Mb.below da.size fun q e => by subst e; exact hpw)
          have TR := TLb.pulse
          rw [HR2.out, HB] at TR
          unfold TlOut at TR
          generalize hk0 : k % (mm + 1) = kq at *
          rw [show (if kq = 0 then framesS v1 none else []) = [] by split <;> rfl] at TR
          replace TR := Lib.hid TR
          have HK0 := Lib.hid hk0
          clear hk0 HR2 TLb ob Mb
          go_wp2_with fail
          refine (TR.out).mono ?_
          rintro e wc ⟨Ac, cc, rfl, oc, Mc, TLc⟩
          have dc : Below W.heap.size W wc := db.trans (Mc.below db.size fun q e => by subst e; exact hpw)
          clear oc Mc
          go_wp2_with fail
          go_roundw
          case rel => exact ⟨k + 1, _, by omega, by omega, by go_num, dc, TLc, by rw [HR1.out]; rw [show k + 1 - 1 = k from rfl, HK0.out]⟩
          case measure => simp [intOf] <;> omega
        · obtain rfl : k = 100 := by omega
          clear hc
          go_wp2_with fail
          refine (known32_any _).mono ?_
          rintro e w9 ⟨rfl, b9⟩
          go_wp2_with fail
          go_ret
          exact ⟨rfl, below_step dr b9 (Nat.le_refl _)⟩
      · clear hc
        go_wp2_with fail
        refine (known32_any _).mono ?_
        rintro e w9 ⟨rfl, b9⟩
        go_wp2_with fail
        go_ret
        exact ⟨rfl, below_step dr b9 (Nat.le_refl _)⟩
  · rw [if_neg (by simp [hpd, hws])] at HB
    have e2 : decide (0 < ws.length) = true := decide_eq_true (by omega)
    have e0 : ((Cob.pdo v1 : Int) == 0) = false := by rw [beq_eq_false_iff_ne]; omega
    have e1 : ((Cob.pdo v1 : Int) != 0) = true := by rw [bne_iff_ne]; omega
    have F5 := K5.seven
    go_wp2_with fail
    refine (ID.out).mono ?_
    rintro e _ ⟨rfl, rfl⟩
    go_wp2_with fail
    go_loopw [12] (fun i wr => ∃ (k : Nat) (s : Tp.St), 1 ≤ k ∧ k ≤ 100 ∧ i = .int .i64 k ∧ Below W.heap.size W wr ∧ Tl wr Fp p gd v1 (1 + (mm : Int)) inh ev ws s D ∧ s.count = (((k - 1) % (mm + 1) : Nat) : Int)) (fun i _ => 100 - (intOf i).toNat)
    case atStart => exact ⟨1, _, by omega, by omega, rfl, d5, TL'.out, HC.out⟩
    case round =>
      obtain ⟨k, s, hk1, hk2, rfl, dr, TLr, hc⟩ := hrel
      by_cases hlt : k ≤ 2 * (1 + mm) + 1
      · by_cases hlt2 : k < 100
        · obtain ⟨hp1, hp2, _, _⟩ := Tp.pulses (n := 1 + (mm : Int)) (by omega) (by omega) s
          obtain ⟨hr1, hr2⟩ := pulse_round (v := v1) (o := Tp.bytesS D v1 ws) (inh := inh) (ev := ev) (s := s) hml hk1 hc
          have hmod : Int.tmod (k : Int) (1 + (mm : Int)) = ((k % (mm + 1) : Nat) : Int) := by rw [Int.tmod_eq_emod_of_nonneg (by omega)]; rw [Int.natCast_emod]; congr 1; omega
          have TR := TLr.trigger
          rw [hp1, outT_no, stT_no] at TR
          unfold TlOut at TR
          replace TR := Lib.hid TR
          have HP2 := Lib.hid hp2
          have HR1 := Lib.hid hr1
          have HR2 := Lib.hid hr2
          have HCr := Lib.hid hc
          clear TLr hp1 hp2 hr1 hr2 hc
          go_wp2_with fail
          refine (TR.out).mono ?_
          rintro e wa ⟨Aa, ca, rfl, oa, Ma, TLa⟩
          have da : Below W.heap.size W wa := dr.trans (Ma.below dr.size fun q e => by subst e; exact hpw)
          have TR := TLa.tick
          rw [HP2.out, outT_no, stT_no] at TR
          unfold TlOut at TR
          replace TR := Lib.hid TR
          clear TLa oa Ma
          go_wp2_with fail
          refine (TR.out).mono ?_
          rintro e wb ⟨Ab, cb, rfl, ob, Mb, TLb⟩
          have db : Below W.heap.size W wb := da.trans (Mb.below da.size fun q e => by subst e; exact hpw)
          have TR := TLb.pulse
          rw [HR2.out, HB] at TR
          unfold TlOut at TR
          generalize hk0 : k % (mm + 1) = kq at *
          have HK0 := Lib.hid hk0
          clear hk0 HR2 TLb ob Mb
          by_cases hq : kq = 0
          · rw [if_pos hq] at TR
            have hq2 : ((kq : Int) == 0) = true := by rw [hq]; rfl
            rw [show framesS v1 (some (Mp.gatherS D ws).1) = [⟨(Cob.pdo v1 : Int), false, (Mp.gatherS D ws).1⟩] from rfl] at TR
            replace TR := Lib.hid TR
            clear hq
            go_wp2_with fail
            refine (TR.out).mono ?_
            rintro e wc ⟨Ac, cc, rfl, oc, Mc, TLc⟩
            have dc : Below W.heap.size W wc := db.trans (Mc.below db.size fun q e => by subst e; exact hpw)
            clear oc Mc
            go_wp2_with fail
            go_roundw
            case rel => exact ⟨k + 1, _, by omega, by omega, by go_num, dc, TLc, by rw [HR1.out]; rw [show k + 1 - 1 = k from rfl, HK0.out]⟩
            case measure => simp [intOf] <;> omega
          · rw [if_neg hq] at TR
            have hq2 : ((kq : Int) == 0) = false := by rw [beq_eq_false_iff_ne]; omega
            replace TR := Lib.hid TR
            clear hq
            go_wp2_with fail
            refine (TR.out).mono ?_
            rintro e wc ⟨Ac, cc, rfl, oc, Mc, TLc⟩
            have dc : Below W.heap.size W wc := db.trans (Mc.below db.size fun q e => by subst e; exact hpw)
            clear oc Mc
            go_wp2_with fail
            go_roundw
            case rel => exact ⟨k + 1, _, by omega, by omega, by go_num, dc, TLc, by rw [HR1.out]; rw [show k + 1 - 1 = k from rfl, HK0.out]⟩
            case measure => simp [intOf] <;> omega
        · obtain rfl : k = 100 := by omega
          clear hc
          go_wp2_with fail
          refine (known32_any _).mono ?_
          rintro e w9 ⟨rfl, b9⟩
          go_wp2_with fail
          go_ret
          exact ⟨rfl, below_step dr b9 (Nat.le_refl _)⟩
      · clear hc
        go_wp2_with fail
        refine (known32_any _).mono ?_
        rintro e w9 ⟨rfl, b9⟩
        go_wp2_with fail
        go_ret
        exact ⟨rfl, below_step dr b9 (Nat.le_refl _)⟩
end Go.Proofs.Ytbmocffnnlfnjaa
