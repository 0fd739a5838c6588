/-
  Texts joined: EdsRParse.
  Conditions: none.
-/
import Derived.Test.YtmolmpgampmolaaGreatJ13
import Derived.Test.YtmolmpgampmolaaGreatJ20
import Derived.Test.YtmolmpgampmolaaGreatJ27
import Derived.Test.YtmolmpgampmolaaGreatJ28
import Derived.Test.YtmolmpgampmolaaGreatJ31
import Derived.Test.YtmolmpgampmolaaGreatJ32
import Derived.BigQuiet
/-
  Walk: Parse of the reference of layer 17 (printed by wip/gened4.py).
  Conditions: none.
-/
namespace Go.Proofs.YtmolmpgampmolaaGreat.Ed
set_option linter.unusedVariables false
set_option linter.unusedSimpArgs false
open Lx Ent
theorem tok_kind (s : List UInt8) : (tok s).1.kind ≠ -1 := by
  cases s with
  | nil => exact (by decide : (0 : Int) ≠ -1)
  | cons c r =>
    rw [show tok (c :: r) = tokC c r from rfl]
    unfold tokC
    repeat' split
    all_goals first | exact (by decide : (0 : Int) ≠ -1) | exact (by decide : (1 : Int) ≠ -1) | exact (by decide : (2 : Int) ≠ -1) | exact (by decide : (3 : Int) ≠ -1) | exact (by decide : (4 : Int) ≠ -1) | exact (by decide : (5 : Int) ≠ -1)
theorem pl_kind {s : List UInt8} : ∀ {ts : List Tk} {p : Nat}, Pl s p ts → ∀ t ∈ ts, t.kind ≠ -1
  | [], _, _, _, h => by cases h
  | t :: ts, p, h, u, hu => by
    rcases List.mem_cons.1 hu with rfl | hu
    · have h4 := h.2.2.2.1
      have := tok_kind (s.drop u.pl)
      rw [h4] at this
      exact this
    · exact pl_kind h.2.2.2.2 u hu
theorem scan_kind {s : List UInt8} : ∀ t ∈ (scanS s).1, t.kind ≠ -1 := by
  intro t ht
  by_cases hb : 8192 < s.length
  · rw [show scanS s = ([], 3, 0) from if_pos hb] at ht; cases ht
  rcases scanS_all (s := s) (by omega) with ⟨ts, h1, h2, _⟩ | ⟨ts, e, r, h1, _⟩
  · rw [h1] at ht
    exact pl_kind h2 t ht
  · rw [h1] at ht; cases ht
theorem place_at {l : List Tk} {n p : Nat} (h : p < l.length) : placeS l n p = (l.getD p tk0).pl := if_pos h
theorem place_out {l : List Tk} {n p : Nat} (h : l.length ≤ p) : placeS l n p = n := if_neg (by omega)
end Go.Proofs.YtmolmpgampmolaaGreat.Ed
namespace Go.Proofs.YtmolmpgampmolaaGreat
set_option linter.unusedVariables false
set_option linter.unusedSimpArgs false
open Go.RowKit Go.Sort
set_option maxRecDepth 100000 in
set_option maxHeartbeats 16000000 in
theorem ERParse_any (s : List UInt8) (w : World) (hs : s.length ≤ 1000000) : Calls Tryz.prog 7 #[.string (T s)] w (ParPost (Ed.parseS s) w) := by
  have SC := RScan_any s w hs
  have hT := T_size s
  have hsm := Ed.scan_small (s := s)
  have hkm := Ed.scan_kind (s := s)
  have hps : Ed.parseS s = if (Lx.scanS s).2.1 ≠ 0 then ([], (Lx.scanS s).2.1, (Lx.scanS s).2.2) else Ed.parF (Lx.scanS s).1 s.length ((Lx.scanS s).1.length + 1) 0 [] := rfl
  unfold ScanPost at SC
  generalize Lx.scanS s = sc at *
  obtain ⟨ts, se, sq⟩ := sc
  dsimp only at SC hsm hps hkm
  by_cases hse : se = 0
  case neg =>
    rw [if_pos hse] at hps
    have HP := Lib.hid hps
    have e1 : (se != 0) = true := by simpa using hse
    replace SC := Lib.hid SC
    clear hps hsm hkm hse
    go_enter Tryz.func7, Tryz.ntmps7
    go_wp2_with fail
    refine (SC.out).mono ?_
    rintro e w1 ⟨A, c, rfl, _, b1⟩
    go_wp2_with fail
    go_ret3
    exact par_none HP.out rfl b1
  subst hse
  rw [if_neg (by simp)] at hps
  have HP := Lib.hid hps
  have HSM := Lib.hid hsm
  have HKM := Lib.hid hkm
  replace SC := Lib.hid SC
  clear hps hsm hkm
  go_enter Tryz.func7, Tryz.ntmps7
  go_wp2_with fail
  refine (SC.out).mono ?_
  rintro e w1 ⟨A, c, rfl, ot, b1⟩
  have b2 := alloc_one w1 (.cells #[.slice A ts.length c, .int .i64 0, .bool false, .int .i64 0] 54)
  have K0 := Blk.new w1 54 #[.slice A ts.length c, .int .i64 0, .bool false, .int .i64 0]
  have R0 : RdR (w1.alloc (.cells #[.slice A ts.length c, .int .i64 0, .bool false, .int .i64 0] 54)) w1.heap.size A ts.length c ts ⟨0, 0⟩ := ⟨K0, ot.rs.below b2, Nat.zero_le _⟩
  have d2 := below_step b1 b2 (Nat.le_refl _)
  have hg2 := K0.lt
  have hbg := b1.size
  clear SC ot b1 b2 K0
  generalize hg : w1.heap.size = g at *
  go_wp2_with fail
  go_loopw [9] (fun v wr => ∃ (k p : Nat) (es : List Ent.En) (A1 : Option Addr) (c1 : Nat), v = .slice A1 es.length c1 ∧ ts.length < p + k ∧ es.length ≤ 96 ∧ Hid (Ed.parseS s = Ed.parF ts s.length k p es) ∧ RdR wr g A ts.length c ts ⟨p, 0⟩ ∧ OEn wr (g + 1) A1 es.length c1 es ∧ Below w.heap.size w wr) (fun v _ => 97 - rowLen v)
  case atStart => exact ⟨ts.length + 1, 0, [], none, 0, rfl, by omega, by simp, HP, R0, OEn.none_ _ _, d2⟩
  case round =>
    obtain ⟨k, p, es, A1, c1, rfl, hk, h96, HG, RR, OO, bb⟩ := hrel
    have FR := RR.blk.four
    have hzz : ((0 : Int) != 0) = false := rfl
    dsimp only at FR
    by_cases hp : ts.length ≤ p
    · have HE := Lib.hid (HG.out.trans (Ed.par_end hp))
      have e1 : (ts.length : Int) ≤ (p : Int) := by omega
      clear HG hp
      go_wp2_with fail
      go_ret3
      exact par_some HE.out rfl (OO.more (by omega)) bb
    have hplt : p < ts.length := by omega
    have hp2 : (p : Int) < (ts.length : Int) := by omega
    obtain ⟨b, o, rfl, hbg', q0, q1, q2, q3⟩ := RR.tok.at_ hplt
    have hpl := Ed.place_at (n := s.length) hplt
    rw [show ts.getD p tkz = ts.getD p Lx.tk0 from rfl, ← hpl] at q3
    have ELEN := Ed.ent_len (l := ts) (s := ⟨p, 0⟩) (m := 8192) (fun t ht => by have := HSM.out t ht; omega)
    have hadv := Ed.ent_adv (l := ts) (s := ⟨p, 0⟩)
    have hbad := Ed.par_bad (n := s.length) (out := es) hplt hk
    have hfin := Ed.par_fin (n := s.length) (out := es) hplt hk
    have hstp := Ed.par_step (n := s.length) (out := es) hplt hk
    have h96f := Ed.fin_96 (out := es) (e := Ed.entE ts ⟨p, 0⟩) (v := Ed.entV ts ⟨p, 0⟩)
    have EN := rentry_any RR HKM.out
    have hgl := RR.blk.lt
    generalize Ed.entR ts ⟨p, 0⟩ = r1 at *
    generalize Ed.entE ts ⟨p, 0⟩ = en at *
    generalize Ed.entV ts ⟨p, 0⟩ = ev at *
    generalize Ed.placeS ts s.length p = pl at *
    unfold enV at EN
    obtain ⟨rp, re⟩ := r1
    dsimp only at hadv hbad hfin hstp hplt
    have hv := ELEN.2
    have hnm := ELEN.1
    replace EN := Lib.hid EN
    clear ELEN hp hpl q0 q1 q2
    by_cases hre : re = 0
    case neg =>
      by_cases hrp : rp < ts.length
      · skip
        go_wp2_with fail
        refine (EN.out).mono ?_
        rintro e w3 ⟨rfl, m3, R3⟩
        have O3 := OO.past (Nat.lt_succ_self g) m3
        have b4 := alloc_one w3 (.cells #[.int .i64 en.index, .int .i64 en.sub, .string (T en.name), .int .i64 en.type, .int .i64 en.access, .bool en.map, .bool en.store, .int .i64 en.max, .int .i64 en.low, .int .i64 en.high, .slice none 0 0] 31)
        have K4 := Blk.new w3 31 #[.int .i64 en.index, .int .i64 en.sub, .string (T en.name), .int .i64 en.type, .int .i64 en.access, .bool en.map, .bool en.store, .int .i64 en.max, .int .i64 en.low, .int .i64 en.high, .slice none 0 0]
        have R4 := R3.below b4
        have F4 := R4.blk.four
        have D3 := bb.trans (m3.below bb.size (fun q e => by rw [e]; omega))
        clear EN RR OO FR q3
        have HB := Lib.hid (HG.out.trans (hbad hre))
        rw [Ed.place_at hrp] at HB
        obtain ⟨b', o', ho', hbg2, r0, r1', r2, r3⟩ := R3.tok.at_ hrp
        injection ho' with ho'
        injection ho' with ho1 ho2
        subst ho1 ho2
        rw [show ts.getD rp tkz = ts.getD rp Lx.tk0 from rfl] at r3
        generalize (ts.getD rp Lx.tk0).pl = pl2 at *
        have r3' := (b4.cell (p := ⟨b, o + rp * 4 + 3, none⟩) (by dsimp only; have := m3.size; omega)).trans r3
        have hrp2 : (rp : Int) < (ts.length : Int) := by omega
        have eb : (re != 0) = true := by simpa using hre
        dsimp only at F4
        rw [eb] at F4
        have g3 := cell_regrown (R4.blk.cell 3)
        have D4 := D3.trans (b4.mono D3.size)
        clear hbad hfin hstp hadv h96f HG hre R3 O3 K4 m3 b4 R4
        go_wp2_with fail
        refine region_later (by kernel_rfl) ?_
        refine phase_later (by kernel_rfl) 0 (below_drew _) [0, 4, 5, 1, 2, 3, 6, 7] rfl (by kernel_rfl) ?_
        simp only [picks, nth]
        repeat (go_big_quiet_step (fail))
        refine wpQuiet_nil ?_
        refine phase_end (by kernel_rfl) ?_
        go_wp2_with fail
        go_ret3
        exact par_none HB.out rfl D4.drew
      · skip
        go_wp2_with fail
        refine (EN.out).mono ?_
        rintro e w3 ⟨rfl, m3, R3⟩
        have O3 := OO.past (Nat.lt_succ_self g) m3
        have b4 := alloc_one w3 (.cells #[.int .i64 en.index, .int .i64 en.sub, .string (T en.name), .int .i64 en.type, .int .i64 en.access, .bool en.map, .bool en.store, .int .i64 en.max, .int .i64 en.low, .int .i64 en.high, .slice none 0 0] 31)
        have K4 := Blk.new w3 31 #[.int .i64 en.index, .int .i64 en.sub, .string (T en.name), .int .i64 en.type, .int .i64 en.access, .bool en.map, .bool en.store, .int .i64 en.max, .int .i64 en.low, .int .i64 en.high, .slice none 0 0]
        have R4 := R3.below b4
        have F4 := R4.blk.four
        have D3 := bb.trans (m3.below bb.size (fun q e => by rw [e]; omega))
        clear EN RR OO FR q3
        have HB := Lib.hid (HG.out.trans (hbad hre))
        rw [Ed.place_out (by omega)] at HB
        have hrp2 : (ts.length : Int) ≤ (rp : Int) := by omega
        have eb : (re != 0) = true := by simpa using hre
        dsimp only at F4
        rw [eb] at F4
        have g3 := cell_regrown (R4.blk.cell 3)
        have D4 := D3.trans (b4.mono D3.size)
        clear hbad hfin hstp hadv h96f HG hre R3 O3 K4 m3 b4 R4
        go_wp2_with fail
        refine region_later (by kernel_rfl) ?_
        refine phase_later (by kernel_rfl) 0 (below_drew _) [0, 4, 5, 1, 2, 3, 6, 7] rfl (by kernel_rfl) ?_
        simp only [picks, nth]
        repeat (go_big_quiet_step (fail))
        refine wpQuiet_nil ?_
        refine phase_end (by kernel_rfl) ?_
        go_wp2_with fail
        go_ret3
        exact par_none HB.out (by rw [← hT]) D4.drew
    subst hre
    clear hbad
    have hfv : Ed.finS es en ev = if (Ty.parseS en.type ev).2 ≠ 0 then (Ty.parseS en.type ev).2 else if Ent.rightS { en with dflt := (Ty.parseS en.type ev).1 } ≠ 0 then Ent.rightS { en with dflt := (Ty.parseS en.type ev).1 } else if es.length = 96 then 3 else if 0 < es.length ∧ Ent.befB (es.getD (es.length - 1) Dc.en0) en = false then 16 else 0 := rfl
    have PA := fun w => RParse_anyT en.type ev w (by omega)
    unfold BP at PA
    generalize hpp : Ty.parseS en.type ev = pp at *
    obtain ⟨pb, pe⟩ := pp
    dsimp only at PA hfv hstp
    clear hpp
    replace hfin := hfin rfl
    replace hstp := hstp rfl
    replace hadv := hadv rfl
    replace PA := Lib.hid PA
    have RG := fun (w1 : World) (A5 : Option Addr) (c5 B : Nat) (hb : RB w1 B A5 pb.length c5 pb) (hB : B ≤ w1.heap.size) => RRight_any { en with dflt := pb } w1 hb hB (by dsimp only; omega)
    unfold enV at RG
    dsimp only at RG
    by_cases hpe : pe = 0
    case neg =>
      have HB := Lib.hid (HG.out.trans (hfin (by rw [hfv, if_pos hpe]; exact hpe)))
      rw [hfv, if_pos hpe] at HB
      have e2 : (pe != 0) = true := by simpa using hpe
      clear hfin hstp hadv h96f HG hpe RG hfv
      go_wp2_with fail
      refine (EN.out).mono ?_
      rintro e w3 ⟨rfl, m3, R3⟩
      have O3 := OO.past (Nat.lt_succ_self g) m3
      have b4 := alloc_one w3 (.cells #[.int .i64 en.index, .int .i64 en.sub, .string (T en.name), .int .i64 en.type, .int .i64 en.access, .bool en.map, .bool en.store, .int .i64 en.max, .int .i64 en.low, .int .i64 en.high, .slice none 0 0] 31)
      have K4 := Blk.new w3 31 #[.int .i64 en.index, .int .i64 en.sub, .string (T en.name), .int .i64 en.type, .int .i64 en.access, .bool en.map, .bool en.store, .int .i64 en.max, .int .i64 en.low, .int .i64 en.high, .slice none 0 0]
      have R4 := R3.below b4
      have F4 := R4.blk.four
      have D3 := bb.trans (m3.below bb.size (fun q e => by rw [e]; omega))
      clear EN RR OO FR q3
      dsimp only at F4
      rw [hzz] at F4
      go_wp2_with fail
      refine (PA.out _).mono ?_
      rintro e w5 ⟨A5, c5, rfl, o5, b5⟩
      have D5 := D3.trans ((b4.trans (b5.mono b4.size)).mono D3.size)
      go_wp2_with fail
      go_ret3
      exact par_none HB.out rfl D5
    subst hpe
    rw [if_neg (by simp)] at hfv
    by_cases hrs : Ent.rightS { en with dflt := pb } = 0
    case neg =>
      have HB := Lib.hid (HG.out.trans (hfin (by rw [hfv, if_pos hrs]; exact hrs)))
      rw [hfv, if_pos hrs] at HB
      have e2 : (Ent.rightS { en with dflt := pb } != 0) = true := by simpa using hrs
      have e3 : (Ent.rightS { en with dflt := pb } == 0) = false := beq_eq_false_iff_ne.2 hrs
      generalize Ent.rightS { en with dflt := pb } = rs at *
      replace RG := Lib.hid RG
      clear hfin hstp hadv h96f HG hrs hfv
      go_wp2_with fail
      refine (EN.out).mono ?_
      rintro e w3 ⟨rfl, m3, R3⟩
      have O3 := OO.past (Nat.lt_succ_self g) m3
      have b4 := alloc_one w3 (.cells #[.int .i64 en.index, .int .i64 en.sub, .string (T en.name), .int .i64 en.type, .int .i64 en.access, .bool en.map, .bool en.store, .int .i64 en.max, .int .i64 en.low, .int .i64 en.high, .slice none 0 0] 31)
      have K4 := Blk.new w3 31 #[.int .i64 en.index, .int .i64 en.sub, .string (T en.name), .int .i64 en.type, .int .i64 en.access, .bool en.map, .bool en.store, .int .i64 en.max, .int .i64 en.low, .int .i64 en.high, .slice none 0 0]
      have R4 := R3.below b4
      have F4 := R4.blk.four
      have D3 := bb.trans (m3.below bb.size (fun q e => by rw [e]; omega))
      clear EN RR OO FR q3
      dsimp only at F4
      rw [hzz] at F4
      go_wp2_with fail
      refine (PA.out _).mono ?_
      rintro e w5 ⟨A5, c5, rfl, o5, b5⟩
      have K5 := K4.later b5
      have F5 := K5.eleven
      have B5 : Below w3.heap.size w3 w5 := b4.trans (b5.mono b4.size)
      have K6 : Blk (w5.setCell ⟨w3.heap.size, 10, none⟩ (.slice A5 pb.length c5)) w3.heap.size 31 #[.int .i64 en.index, .int .i64 en.sub, .string (T en.name), .int .i64 en.type, .int .i64 en.access, .bool en.map, .bool en.store, .int .i64 en.max, .int .i64 en.low, .int .i64 en.high, .slice A5 pb.length c5] := K5.set_ 10 _
      have B6 : Below w3.heap.size w3 (w5.setCell ⟨w3.heap.size, 10, none⟩ (.slice A5 pb.length c5)) := B5.setCell (p := ⟨w3.heap.size, 10, none⟩) (Nat.le_refl _) _
      have o6 : OB (w5.setCell ⟨w3.heap.size, 10, none⟩ (.slice A5 pb.length c5)) _ A5 pb.length c5 pb := OV.off (show OV w5 _ 5 1 A5 pb.length c5 _ from o5) K5 (by decide)
      have F6 := K6.eleven
      have RG2 := Lib.hid (RG.out _ A5 c5 _ o6.rb (Nat.le_refl _))
      have hsz4 : (w3.alloc (.cells #[.int .i64 en.index, .int .i64 en.sub, .string (T en.name), .int .i64 en.type, .int .i64 en.access, .bool en.map, .bool en.store, .int .i64 en.max, .int .i64 en.low, .int .i64 en.high, .slice none 0 0] 31)).heap.size = w3.heap.size + 1 := by simp [World.size_alloc]
      have o6' := o6.more (base' := g + 1) (by have := R3.blk.lt; omega)
      clear K4 R4 F4 K5 PA RG o5 o6 b4 b5 hsz4 B5
      go_wp2_with fail
      refine (RG2.out).mono ?_
      rintro e w7 ⟨rfl, b7⟩
      have B7 := B6.trans (b7.mono B6.size)
      have K7 := K6.later b7
      have o7 := o6'.below b7
      have R7 := R3.below B7
      have O7 := O3.below B7
      have D7 := D3.trans (B7.mono D3.size)
      clear F5 F6 K6 RG2 B6 b7 o6' B7 R3 O3
      clear K7 o7 R7 O7
      go_wp2_with fail
      go_quiet (fail)
      go_wp2_with fail
      go_ret3
      exact par_none HB.out rfl (below_drewN D7 nq)
    rw [if_neg (fun h => h hrs)] at hfv
    rw [hrs] at RG
    clear hrs
    by_cases h9 : es.length = 96
    · skip
      have HB := Lib.hid (HG.out.trans (hfin (by rw [hfv, if_pos h9]; decide)))
      rw [hfv, if_pos h9] at HB
      have e2 : ((es.length : Int) == 96) = true := by rw [h9]; rfl
      have e3 : (es.length == 96) = true := by rw [h9]; rfl
      replace RG := Lib.hid RG
      clear hfin hstp hadv h96f HG hfv h9
      go_wp2_with fail
      refine (EN.out).mono ?_
      rintro e w3 ⟨rfl, m3, R3⟩
      have O3 := OO.past (Nat.lt_succ_self g) m3
      have b4 := alloc_one w3 (.cells #[.int .i64 en.index, .int .i64 en.sub, .string (T en.name), .int .i64 en.type, .int .i64 en.access, .bool en.map, .bool en.store, .int .i64 en.max, .int .i64 en.low, .int .i64 en.high, .slice none 0 0] 31)
      have K4 := Blk.new w3 31 #[.int .i64 en.index, .int .i64 en.sub, .string (T en.name), .int .i64 en.type, .int .i64 en.access, .bool en.map, .bool en.store, .int .i64 en.max, .int .i64 en.low, .int .i64 en.high, .slice none 0 0]
      have R4 := R3.below b4
      have F4 := R4.blk.four
      have D3 := bb.trans (m3.below bb.size (fun q e => by rw [e]; omega))
      clear EN RR OO FR q3
      dsimp only at F4
      rw [hzz] at F4
      go_wp2_with fail
      refine (PA.out _).mono ?_
      rintro e w5 ⟨A5, c5, rfl, o5, b5⟩
      have K5 := K4.later b5
      have F5 := K5.eleven
      have B5 : Below w3.heap.size w3 w5 := b4.trans (b5.mono b4.size)
      have K6 : Blk (w5.setCell ⟨w3.heap.size, 10, none⟩ (.slice A5 pb.length c5)) w3.heap.size 31 #[.int .i64 en.index, .int .i64 en.sub, .string (T en.name), .int .i64 en.type, .int .i64 en.access, .bool en.map, .bool en.store, .int .i64 en.max, .int .i64 en.low, .int .i64 en.high, .slice A5 pb.length c5] := K5.set_ 10 _
      have B6 : Below w3.heap.size w3 (w5.setCell ⟨w3.heap.size, 10, none⟩ (.slice A5 pb.length c5)) := B5.setCell (p := ⟨w3.heap.size, 10, none⟩) (Nat.le_refl _) _
      have o6 : OB (w5.setCell ⟨w3.heap.size, 10, none⟩ (.slice A5 pb.length c5)) _ A5 pb.length c5 pb := OV.off (show OV w5 _ 5 1 A5 pb.length c5 _ from o5) K5 (by decide)
      have F6 := K6.eleven
      have RG2 := Lib.hid (RG.out _ A5 c5 _ o6.rb (Nat.le_refl _))
      have hsz4 : (w3.alloc (.cells #[.int .i64 en.index, .int .i64 en.sub, .string (T en.name), .int .i64 en.type, .int .i64 en.access, .bool en.map, .bool en.store, .int .i64 en.max, .int .i64 en.low, .int .i64 en.high, .slice none 0 0] 31)).heap.size = w3.heap.size + 1 := by simp [World.size_alloc]
      have o6' := o6.more (base' := g + 1) (by have := R3.blk.lt; omega)
      clear K4 R4 F4 K5 PA RG o5 o6 b4 b5 hsz4 B5
      go_wp2_with fail
      refine (RG2.out).mono ?_
      rintro e w7 ⟨rfl, b7⟩
      have B7 := B6.trans (b7.mono B6.size)
      have K7 := K6.later b7
      have o7 := o6'.below b7
      have R7 := R3.below B7
      have O7 := O3.below B7
      have D7 := D3.trans (B7.mono D3.size)
      clear F5 F6 K6 RG2 B6 b7 o6' B7 R3 O3
      clear K7 o7 R7 O7
      go_wp2_with fail
      go_quiet (fail)
      go_wp2_with fail
      go_ret3
      exact par_none HB.out rfl (below_drewN D7 nq)
    rw [if_neg h9] at hfv
    have e9 : ((es.length : Int) == 96) = false := beq_eq_false_iff_ne.2 (by omega)
    have e9' : (es.length == 96) = false := beq_eq_false_iff_ne.2 h9
    by_cases h0 : 0 < es.length
    case neg =>
      rw [if_neg (fun h => h0 h.1)] at hfv
      have HB := Lib.hid (HG.out.trans (hstp hfv))
      have hne96 := h96f hfv
      have hlt96 : es.length + 1 ≤ 96 := by omega
      have HHP := Lib.hid hadv
      replace RG := Lib.hid RG
      have e0 : es.length = 0 := by omega
      have hd0 : decide (0 < es.length) = false := decide_eq_false (by omega)
      have hd1 : decide (0 < (es.length : Int)) = false := decide_eq_false (by omega)
      have HE0 := Lib.hid e0
      clear hfin hstp hadv h96f HG hfv h0 hne96 e0
      go_wp2_with fail
      refine (EN.out).mono ?_
      rintro e w3 ⟨rfl, m3, R3⟩
      have O3 := OO.past (Nat.lt_succ_self g) m3
      have b4 := alloc_one w3 (.cells #[.int .i64 en.index, .int .i64 en.sub, .string (T en.name), .int .i64 en.type, .int .i64 en.access, .bool en.map, .bool en.store, .int .i64 en.max, .int .i64 en.low, .int .i64 en.high, .slice none 0 0] 31)
      have K4 := Blk.new w3 31 #[.int .i64 en.index, .int .i64 en.sub, .string (T en.name), .int .i64 en.type, .int .i64 en.access, .bool en.map, .bool en.store, .int .i64 en.max, .int .i64 en.low, .int .i64 en.high, .slice none 0 0]
      have R4 := R3.below b4
      have F4 := R4.blk.four
      have D3 := bb.trans (m3.below bb.size (fun q e => by rw [e]; omega))
      clear EN RR OO FR q3
      dsimp only at F4
      rw [hzz] at F4
      go_wp2_with fail
      refine (PA.out _).mono ?_
      rintro e w5 ⟨A5, c5, rfl, o5, b5⟩
      have K5 := K4.later b5
      have F5 := K5.eleven
      have B5 : Below w3.heap.size w3 w5 := b4.trans (b5.mono b4.size)
      have K6 : Blk (w5.setCell ⟨w3.heap.size, 10, none⟩ (.slice A5 pb.length c5)) w3.heap.size 31 #[.int .i64 en.index, .int .i64 en.sub, .string (T en.name), .int .i64 en.type, .int .i64 en.access, .bool en.map, .bool en.store, .int .i64 en.max, .int .i64 en.low, .int .i64 en.high, .slice A5 pb.length c5] := K5.set_ 10 _
      have B6 : Below w3.heap.size w3 (w5.setCell ⟨w3.heap.size, 10, none⟩ (.slice A5 pb.length c5)) := B5.setCell (p := ⟨w3.heap.size, 10, none⟩) (Nat.le_refl _) _
      have o6 : OB (w5.setCell ⟨w3.heap.size, 10, none⟩ (.slice A5 pb.length c5)) _ A5 pb.length c5 pb := OV.off (show OV w5 _ 5 1 A5 pb.length c5 _ from o5) K5 (by decide)
      have F6 := K6.eleven
      have RG2 := Lib.hid (RG.out _ A5 c5 _ o6.rb (Nat.le_refl _))
      have hsz4 : (w3.alloc (.cells #[.int .i64 en.index, .int .i64 en.sub, .string (T en.name), .int .i64 en.type, .int .i64 en.access, .bool en.map, .bool en.store, .int .i64 en.max, .int .i64 en.low, .int .i64 en.high, .slice none 0 0] 31)).heap.size = w3.heap.size + 1 := by simp [World.size_alloc]
      have o6' := o6.more (base' := g + 1) (by have := R3.blk.lt; omega)
      clear K4 R4 F4 K5 PA RG o5 o6 b4 b5 hsz4 B5
      go_wp2_with fail
      refine (RG2.out).mono ?_
      rintro e w7 ⟨rfl, b7⟩
      have B7 := B6.trans (b7.mono B6.size)
      have K7 := K6.later b7
      have o7 := o6'.below b7
      have R7 := R3.below B7
      have O7 := O3.below B7
      have D7 := D3.trans (B7.mono D3.size)
      clear F5 F6 K6 RG2 B6 b7 o6' B7 R3 O3
      go_wp2_with fail
      go_quiet (fail)
      have nqb := below_drewN (Below.refl w7.heap.size w7) nq
      replace K7 := K7.later nqb
      replace o7 := o7.below nqb
      replace R7 := R7.below nqb
      replace O7 := O7.below nqb
      replace D7 := D7.trans (nqb.mono D7.size)
      clear nqb
      generalize w7.drewN nq = w7 at *
      have F7 := K7.eleven
      have hg5 : g + 1 ≤ w7.heap.size := R7.blk.lt
      have b8 := alloc_one w7 (.cells #[.int .i64 en.index, .int .i64 en.sub, .string (T en.name), .int .i64 en.type, .int .i64 en.access, .bool en.map, .bool en.store, .int .i64 en.max, .int .i64 en.low, .int .i64 en.high, .slice A5 pb.length c5] 31)
      have O8 := O7.below b8
      have R8 := R7.below b8
      have hnew := RV.new w7 31 (size := 11) (cs := enL { en with dflt := pb } A5 pb.length c5) rfl
      have hf8 : EnB (w7.alloc (.cells #[.int .i64 en.index, .int .i64 en.sub, .string (T en.name), .int .i64 en.type, .int .i64 en.access, .bool en.map, .bool en.store, .int .i64 en.max, .int .i64 en.low, .int .i64 en.high, .slice A5 pb.length c5] 31)) (g + 1) { en with dflt := pb } (enL { en with dflt := pb } A5 pb.length c5) := ⟨A5, _, c5, rfl, o7.below b8⟩
      have D8 := D7.alloc D7.size (.cells #[.int .i64 en.index, .int .i64 en.sub, .string (T en.name), .int .i64 en.type, .int .i64 en.access, .bool en.map, .bool en.store, .int .i64 en.max, .int .i64 en.low, .int .i64 en.high, .slice A5 pb.length c5] 31)
      have hg8 : g + 1 ≤ (w7.alloc (.cells #[.int .i64 en.index, .int .i64 en.sub, .string (T en.name), .int .i64 en.type, .int .i64 en.access, .bool en.map, .bool en.store, .int .i64 en.max, .int .i64 en.low, .int .i64 en.high, .slice A5 pb.length c5] 31)).heap.size := R8.blk.lt
      go_wp2_with (at_builtin; refine wpList_apps2 eten (fun w1 => EnB w1 (g + 1)) rfl (.tmp 118) (.tmp 120) rfl rfl rfl (g + 1) O8 { en with dflt := pb } hnew hf8 (en_oneCell _ _ _ _) (by omega) (by omega) hg8 (fun w1 A1 n1 c1 xs hv hg f cs hf => hf.beside hv (by decide) hg) ?_; intro A9 c9 w9 o9 b9 g9 _)
      have R9 : RdR w9 g (some ⟨b, o, none⟩) ts.length c ts ⟨rp, 0⟩ := R8.mv (Mv.of_grown g9) fun q hq => by
        obtain ⟨xs, x1, _⟩ := O8
        have := (x1.lt q hq.symm).1
        omega
      have D9 : Below w.heap.size w w9 := D8.trans (b9.mono (by omega))
      have hlen9 : (es ++ [{ en with dflt := pb }]).length = es.length + 1 := by simp
      go_roundw
      case rel => exact ⟨k - 1, rp, es ++ [{ en with dflt := pb }], A9, c9, by rw [hlen9], by have := HHP.out; omega, by rw [hlen9]; exact hlt96, HB, R9, by rw [hlen9]; exact o9, D9⟩
      case measure => simp only [rowLen]; omega
    cases hbf : Ent.befB (es.getD (es.length - 1) Dc.en0) en
    · skip
      have HB := Lib.hid (HG.out.trans (hfin (by rw [hfv, if_pos ⟨h0, hbf⟩]; decide)))
      rw [hfv, if_pos ⟨h0, hbf⟩] at HB
      have HBF := Lib.hid hbf
      replace RG := Lib.hid RG
      have hd0 : decide (0 < es.length) = true := decide_eq_true h0
      have i5 : IntKind.i64.wrap ((es.length : Int) - 1) = (es.length : Int) - 1 := IntWalk.i64_in _ (by omega)
      have i6 : ((es.length : Int) - 1).toNat = es.length - 1 := by omega
      have i7 : (0 : Int) ≤ (es.length : Int) - 1 := by omega
      have i8 : (es.length : Int) - 1 < (es.length : Int) := by omega
      clear hfin hstp hadv h96f HG hfv hbf
      go_wp2_with fail
      refine (EN.out).mono ?_
      rintro e w3 ⟨rfl, m3, R3⟩
      have O3 := OO.past (Nat.lt_succ_self g) m3
      have b4 := alloc_one w3 (.cells #[.int .i64 en.index, .int .i64 en.sub, .string (T en.name), .int .i64 en.type, .int .i64 en.access, .bool en.map, .bool en.store, .int .i64 en.max, .int .i64 en.low, .int .i64 en.high, .slice none 0 0] 31)
      have K4 := Blk.new w3 31 #[.int .i64 en.index, .int .i64 en.sub, .string (T en.name), .int .i64 en.type, .int .i64 en.access, .bool en.map, .bool en.store, .int .i64 en.max, .int .i64 en.low, .int .i64 en.high, .slice none 0 0]
      have R4 := R3.below b4
      have F4 := R4.blk.four
      have D3 := bb.trans (m3.below bb.size (fun q e => by rw [e]; omega))
      clear EN RR OO FR q3
      dsimp only at F4
      rw [hzz] at F4
      go_wp2_with fail
      refine (PA.out _).mono ?_
      rintro e w5 ⟨A5, c5, rfl, o5, b5⟩
      have K5 := K4.later b5
      have F5 := K5.eleven
      have B5 : Below w3.heap.size w3 w5 := b4.trans (b5.mono b4.size)
      have K6 : Blk (w5.setCell ⟨w3.heap.size, 10, none⟩ (.slice A5 pb.length c5)) w3.heap.size 31 #[.int .i64 en.index, .int .i64 en.sub, .string (T en.name), .int .i64 en.type, .int .i64 en.access, .bool en.map, .bool en.store, .int .i64 en.max, .int .i64 en.low, .int .i64 en.high, .slice A5 pb.length c5] := K5.set_ 10 _
      have B6 : Below w3.heap.size w3 (w5.setCell ⟨w3.heap.size, 10, none⟩ (.slice A5 pb.length c5)) := B5.setCell (p := ⟨w3.heap.size, 10, none⟩) (Nat.le_refl _) _
      have o6 : OB (w5.setCell ⟨w3.heap.size, 10, none⟩ (.slice A5 pb.length c5)) _ A5 pb.length c5 pb := OV.off (show OV w5 _ 5 1 A5 pb.length c5 _ from o5) K5 (by decide)
      have F6 := K6.eleven
      have RG2 := Lib.hid (RG.out _ A5 c5 _ o6.rb (Nat.le_refl _))
      have hsz4 : (w3.alloc (.cells #[.int .i64 en.index, .int .i64 en.sub, .string (T en.name), .int .i64 en.type, .int .i64 en.access, .bool en.map, .bool en.store, .int .i64 en.max, .int .i64 en.low, .int .i64 en.high, .slice none 0 0] 31)).heap.size = w3.heap.size + 1 := by simp [World.size_alloc]
      have o6' := o6.more (base' := g + 1) (by have := R3.blk.lt; omega)
      clear K4 R4 F4 K5 PA RG o5 o6 b4 b5 hsz4 B5
      go_wp2_with fail
      refine (RG2.out).mono ?_
      rintro e w7 ⟨rfl, b7⟩
      have B7 := B6.trans (b7.mono B6.size)
      have K7 := K6.later b7
      have o7 := o6'.below b7
      have R7 := R3.below B7
      have O7 := O3.below B7
      have D7 := D3.trans (B7.mono D3.size)
      clear F5 F6 K6 RG2 B6 b7 o6' B7 R3 O3
      obtain ⟨eb, eo, A6, n6, c6, hA1, hbB, hr6, hc6⟩ := (O7.ren).at_ (i := es.length - 1) (by omega)
      subst hA1
      generalize es.getD (es.length - 1) Dc.en0 = le at *
      have BF := RBefore_any le { en with dflt := pb } A6 A5 n6 c6 pb.length c5 w7.drew
      rw [show Ent.befB le { en with dflt := pb } = Ent.befB le en from rfl, HBF.out] at BF
      unfold enV at BF
      dsimp only at BF
      replace BF := Lib.hid BF
      have p0 := cell_regrown (hc6 0 _ rfl)
      have x0 := cell_regrown (K7.cell 0)
      have p1 := cell_regrown (hc6 1 _ rfl)
      have x1 := cell_regrown (K7.cell 1)
      have p2 := cell_regrown (hc6 2 _ rfl)
      have x2 := cell_regrown (K7.cell 2)
      have p3 := cell_regrown (hc6 3 _ rfl)
      have x3 := cell_regrown (K7.cell 3)
      have p4 := cell_regrown (hc6 4 _ rfl)
      have x4 := cell_regrown (K7.cell 4)
      have p5 := cell_regrown (hc6 5 _ rfl)
      have x5 := cell_regrown (K7.cell 5)
      have p6 := cell_regrown (hc6 6 _ rfl)
      have x6 := cell_regrown (K7.cell 6)
      have p7 := cell_regrown (hc6 7 _ rfl)
      have x7 := cell_regrown (K7.cell 7)
      have p8 := cell_regrown (hc6 8 _ rfl)
      have x8 := cell_regrown (K7.cell 8)
      have p9 := cell_regrown (hc6 9 _ rfl)
      have x9 := cell_regrown (K7.cell 9)
      have p10 := cell_regrown (hc6 10 _ rfl)
      have x10 := cell_regrown (K7.cell 10)
      simp only [Nat.add_zero] at p0
      clear hc6 hr6 HBF
      go_wp2_with fail
      refine region_later (by kernel_rfl) ?_
      refine phase_later (by kernel_rfl) 3 (below_drew _) [0, 1, 2, 3, 4, 5, 6, 7, 8, 9, 14, 10, 11, 12, 13] rfl (by kernel_rfl) ?_
      simp only [picks, nth]
      repeat (go_big_quiet_step (fail))
      refine wpQuiet_nil ?_
      refine phase_op 15 2 rfl (by kernel_rfl) (by decide) ?_
      simp only [nth]
      go_wp2_with (go_at_call 24; refine (BF.out).mono ?_; rintro e w8 ⟨rfl, b8⟩)
      have nqb : Below w7.heap.size w7 w8 := (below_drew w7).trans b8
      refine behind_later nqb ?_
      refine phase_later (by kernel_rfl) 0 (Below.refl _ _) [16, 17] rfl (by kernel_rfl) ?_
      simp only [picks, nth]
      repeat (go_big_quiet_step (fail))
      refine wpQuiet_nil ?_
      refine phase_end (by kernel_rfl) ?_
      replace D7 := D7.trans (nqb.mono D7.size)
      clear K7 o7 R7 O7 nqb BF
      go_wp2_with fail
      go_ret3
      exact par_none HB.out rfl D7
    · skip
      rw [if_neg (fun h => by rw [h.2] at hbf; cases hbf)] at hfv
      have HB := Lib.hid (HG.out.trans (hstp hfv))
      have hne96 := h96f hfv
      have hlt96 : es.length + 1 ≤ 96 := by omega
      have HHP := Lib.hid hadv
      replace RG := Lib.hid RG
      have HBF := Lib.hid hbf
      have hd0 : decide (0 < es.length) = true := decide_eq_true h0
      have i5 : IntKind.i64.wrap ((es.length : Int) - 1) = (es.length : Int) - 1 := IntWalk.i64_in _ (by omega)
      have i6 : ((es.length : Int) - 1).toNat = es.length - 1 := by omega
      have i7 : (0 : Int) ≤ (es.length : Int) - 1 := by omega
      have i8 : (es.length : Int) - 1 < (es.length : Int) := by omega
      clear hfin hstp hadv h96f HG hfv hbf hne96
      go_wp2_with fail
      refine (EN.out).mono ?_
      rintro e w3 ⟨rfl, m3, R3⟩
      have O3 := OO.past (Nat.lt_succ_self g) m3
      have b4 := alloc_one w3 (.cells #[.int .i64 en.index, .int .i64 en.sub, .string (T en.name), .int .i64 en.type, .int .i64 en.access, .bool en.map, .bool en.store, .int .i64 en.max, .int .i64 en.low, .int .i64 en.high, .slice none 0 0] 31)
      have K4 := Blk.new w3 31 #[.int .i64 en.index, .int .i64 en.sub, .string (T en.name), .int .i64 en.type, .int .i64 en.access, .bool en.map, .bool en.store, .int .i64 en.max, .int .i64 en.low, .int .i64 en.high, .slice none 0 0]
      have R4 := R3.below b4
      have F4 := R4.blk.four
      have D3 := bb.trans (m3.below bb.size (fun q e => by rw [e]; omega))
      clear EN RR OO FR q3
      dsimp only at F4
      rw [hzz] at F4
      go_wp2_with fail
      refine (PA.out _).mono ?_
      rintro e w5 ⟨A5, c5, rfl, o5, b5⟩
      have K5 := K4.later b5
      have F5 := K5.eleven
      have B5 : Below w3.heap.size w3 w5 := b4.trans (b5.mono b4.size)
      have K6 : Blk (w5.setCell ⟨w3.heap.size, 10, none⟩ (.slice A5 pb.length c5)) w3.heap.size 31 #[.int .i64 en.index, .int .i64 en.sub, .string (T en.name), .int .i64 en.type, .int .i64 en.access, .bool en.map, .bool en.store, .int .i64 en.max, .int .i64 en.low, .int .i64 en.high, .slice A5 pb.length c5] := K5.set_ 10 _
      have B6 : Below w3.heap.size w3 (w5.setCell ⟨w3.heap.size, 10, none⟩ (.slice A5 pb.length c5)) := B5.setCell (p := ⟨w3.heap.size, 10, none⟩) (Nat.le_refl _) _
      have o6 : OB (w5.setCell ⟨w3.heap.size, 10, none⟩ (.slice A5 pb.length c5)) _ A5 pb.length c5 pb := OV.off (show OV w5 _ 5 1 A5 pb.length c5 _ from o5) K5 (by decide)
      have F6 := K6.eleven
      have RG2 := Lib.hid (RG.out _ A5 c5 _ o6.rb (Nat.le_refl _))
      have hsz4 : (w3.alloc (.cells #[.int .i64 en.index, .int .i64 en.sub, .string (T en.name), .int .i64 en.type, .int .i64 en.access, .bool en.map, .bool en.store, .int .i64 en.max, .int .i64 en.low, .int .i64 en.high, .slice none 0 0] 31)).heap.size = w3.heap.size + 1 := by simp [World.size_alloc]
      have o6' := o6.more (base' := g + 1) (by have := R3.blk.lt; omega)
      clear K4 R4 F4 K5 PA RG o5 o6 b4 b5 hsz4 B5
      go_wp2_with fail
      refine (RG2.out).mono ?_
      rintro e w7 ⟨rfl, b7⟩
      have B7 := B6.trans (b7.mono B6.size)
      have K7 := K6.later b7
      have o7 := o6'.below b7
      have R7 := R3.below B7
      have O7 := O3.below B7
      have D7 := D3.trans (B7.mono D3.size)
      clear F5 F6 K6 RG2 B6 b7 o6' B7 R3 O3
      obtain ⟨eb, eo, A6, n6, c6, hA1, hbB, hr6, hc6⟩ := (O7.ren).at_ (i := es.length - 1) (by omega)
      subst hA1
      generalize es.getD (es.length - 1) Dc.en0 = le at *
      have BF := RBefore_any le { en with dflt := pb } A6 A5 n6 c6 pb.length c5 w7.drew
      rw [show Ent.befB le { en with dflt := pb } = Ent.befB le en from rfl, HBF.out] at BF
      unfold enV at BF
      dsimp only at BF
      replace BF := Lib.hid BF
      have p0 := cell_regrown (hc6 0 _ rfl)
      have x0 := cell_regrown (K7.cell 0)
      have p1 := cell_regrown (hc6 1 _ rfl)
      have x1 := cell_regrown (K7.cell 1)
      have p2 := cell_regrown (hc6 2 _ rfl)
      have x2 := cell_regrown (K7.cell 2)
      have p3 := cell_regrown (hc6 3 _ rfl)
      have x3 := cell_regrown (K7.cell 3)
      have p4 := cell_regrown (hc6 4 _ rfl)
      have x4 := cell_regrown (K7.cell 4)
      have p5 := cell_regrown (hc6 5 _ rfl)
      have x5 := cell_regrown (K7.cell 5)
      have p6 := cell_regrown (hc6 6 _ rfl)
      have x6 := cell_regrown (K7.cell 6)
      have p7 := cell_regrown (hc6 7 _ rfl)
      have x7 := cell_regrown (K7.cell 7)
      have p8 := cell_regrown (hc6 8 _ rfl)
      have x8 := cell_regrown (K7.cell 8)
      have p9 := cell_regrown (hc6 9 _ rfl)
      have x9 := cell_regrown (K7.cell 9)
      have p10 := cell_regrown (hc6 10 _ rfl)
      have x10 := cell_regrown (K7.cell 10)
      simp only [Nat.add_zero] at p0
      clear hc6 hr6 HBF
      go_wp2_with fail
      refine region_later (by kernel_rfl) ?_
      refine phase_later (by kernel_rfl) 3 (below_drew _) [0, 1, 2, 3, 4, 5, 6, 7, 8, 9, 14, 10, 11, 12, 13] rfl (by kernel_rfl) ?_
      simp only [picks, nth]
      repeat (go_big_quiet_step (fail))
      refine wpQuiet_nil ?_
      refine phase_op 15 2 rfl (by kernel_rfl) (by decide) ?_
      simp only [nth]
      go_wp2_with (go_at_call 24; refine (BF.out).mono ?_; rintro e w8 ⟨rfl, b8⟩)
      have nqb : Below w7.heap.size w7 w8 := (below_drew w7).trans b8
      refine behind_later nqb ?_
      refine phase_later (by kernel_rfl) 0 (Below.refl _ _) [16, 17] rfl (by kernel_rfl) ?_
      simp only [picks, nth]
      repeat (go_big_quiet_step (fail))
      refine wpQuiet_nil ?_
      refine phase_end (by kernel_rfl) ?_
      replace D7 := D7.trans (nqb.mono D7.size)
      replace K7 := K7.later nqb
      replace o7 := o7.below nqb
      replace R7 := R7.below nqb
      replace O7 := O7.below nqb
      clear nqb BF p0 p1 p2 p3 p4 p5 p6 p7 p8 p9 p10 x0 x1 x2 x3 x4 x5 x6 x7 x8 x9 x10
      obtain ⟨w7', hw7'⟩ : ∃ w, w = w8 := ⟨w8, rfl⟩
      subst hw7'
      have F7 := K7.eleven
      have hg5 : g + 1 ≤ w7'.heap.size := R7.blk.lt
      have b8 := alloc_one w7' (.cells #[.int .i64 en.index, .int .i64 en.sub, .string (T en.name), .int .i64 en.type, .int .i64 en.access, .bool en.map, .bool en.store, .int .i64 en.max, .int .i64 en.low, .int .i64 en.high, .slice A5 pb.length c5] 31)
      have O8 := O7.below b8
      have R8 := R7.below b8
      have hnew := RV.new w7' 31 (size := 11) (cs := enL { en with dflt := pb } A5 pb.length c5) rfl
      have hf8 : EnB (w7'.alloc (.cells #[.int .i64 en.index, .int .i64 en.sub, .string (T en.name), .int .i64 en.type, .int .i64 en.access, .bool en.map, .bool en.store, .int .i64 en.max, .int .i64 en.low, .int .i64 en.high, .slice A5 pb.length c5] 31)) (g + 1) { en with dflt := pb } (enL { en with dflt := pb } A5 pb.length c5) := ⟨A5, _, c5, rfl, o7.below b8⟩
      have D8 := D7.alloc D7.size (.cells #[.int .i64 en.index, .int .i64 en.sub, .string (T en.name), .int .i64 en.type, .int .i64 en.access, .bool en.map, .bool en.store, .int .i64 en.max, .int .i64 en.low, .int .i64 en.high, .slice A5 pb.length c5] 31)
      have hg8 : g + 1 ≤ (w7'.alloc (.cells #[.int .i64 en.index, .int .i64 en.sub, .string (T en.name), .int .i64 en.type, .int .i64 en.access, .bool en.map, .bool en.store, .int .i64 en.max, .int .i64 en.low, .int .i64 en.high, .slice A5 pb.length c5] 31)).heap.size := R8.blk.lt
      go_wp2_with (at_builtin; refine wpList_apps2 eten (fun w1 => EnB w1 (g + 1)) rfl (.tmp 118) (.tmp 120) rfl rfl rfl (g + 1) O8 { en with dflt := pb } hnew hf8 (en_oneCell _ _ _ _) (by omega) (by omega) hg8 (fun w1 A1 n1 c1 xs hv hg f cs hf => hf.beside hv (by decide) hg) ?_; intro A9 c9 w9 o9 b9 g9 _)
      have R9 : RdR w9 g (some ⟨b, o, none⟩) ts.length c ts ⟨rp, 0⟩ := R8.mv (Mv.of_grown g9) fun q hq => by
        obtain ⟨xs, x1, _⟩ := O8
        have := (x1.lt q hq.symm).1
        omega
      have D9 : Below w.heap.size w w9 := D8.trans (b9.mono (by omega))
      have hlen9 : (es ++ [{ en with dflt := pb }]).length = es.length + 1 := by simp
      go_roundw
      case rel => exact ⟨k - 1, rp, es ++ [{ en with dflt := pb }], A9, c9, by rw [hlen9], by have := HHP.out; omega, by rw [hlen9]; exact hlt96, HB, R9, by rw [hlen9]; exact o9, D9⟩
      case measure => simp only [rowLen]; omega
end Go.Proofs.YtmolmpgampmolaaGreat
