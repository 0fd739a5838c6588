/-
  Texts joined: EdsParse, TypDig, TypNum.
  Conditions: none.
-/
import Derived.Test.YtmolmpgampmolaaGreatJ01
import Derived.Test.YtmolmpgampmolaaGreatJ04
import Derived.Test.YtmolmpgampmolaaGreatJ06
import Derived.Test.YtmolmpgampmolaaGreatJ16
import Derived.Test.YtmolmpgampmolaaGreatJ17
import Derived.Test.YtmolmpgampmolaaGreatJ19
import Derived.KernelRfl
/-
  Walk: Parse of layer 17.
  Conditions: none.
-/
namespace Go.Proofs.YtmolmpgampmolaaGreat.Ed
set_option linter.unusedVariables false
set_option linter.unusedSimpArgs false
open Lx Ent
/-! ### how far a reader goes -/
def Adv (s s' : R) : Prop := s.pos ≤ s'.pos ∧ (s'.err = 0 → s.err = 0)
theorem Adv.refl (s : R) : Adv s s := ⟨Nat.le_refl _, id⟩
theorem Adv.trans {a b c : R} (h : Adv a b) (k : Adv b c) : Adv a c := ⟨Nat.le_trans h.1 k.1, fun e => h.2 (k.2 e)⟩
section
variable {l : List Tk} {s : R} {k : Int} {x : List UInt8}
theorem adv_step : Adv s (stepS s) := ⟨Nat.le_succ _, id⟩
theorem adv_fail {e : Int} (he : e ≠ 0) : Adv s (failS s e) := ⟨by rw [fail_pos]; exact Nat.le_refl _, fun h => absurd h (fail_err he)⟩
theorem adv_take : Adv s (takeS l s k x) := by unfold takeS; split; exact adv_step; exact Adv.refl _
theorem adv_need : Adv s (needR l s k x) := by unfold needR; split; exact adv_step; exact adv_fail (by decide)
theorem adv_kind : Adv s (kindR l s) := by
  unfold kindR
  repeat' split
  · exact adv_step
  · exact adv_fail (by decide)
  · exact adv_fail (by decide)
theorem adv_rights : Adv s (rightsR l s) := by unfold rightsR; split; exact adv_fail (by decide); exact adv_step
theorem need_ok (h : (needR l s k x).err = 0) : isS l s k x = true ∧ s.err = 0 ∧ needR l s k x = stepS s := by
  unfold needR at h ⊢
  split at h
  · rename_i h1; exact ⟨h1, h, by rw [if_pos h1]⟩
  · exact absurd h (fail_err (by decide))
theorem adv_head : Adv s (headS l s).st := ((((adv_need (l := l) (k := 3) (x := [])).trans adv_need).trans adv_need).trans adv_need).trans adv_kind
theorem adv_max : Adv s (maxR l s) := (adv_need.trans adv_need).trans adv_need
theorem adv_rng : Adv s (rngR l s) := (adv_need.trans adv_need).trans adv_need
theorem adv_siz : Adv s (sizR l s) := by unfold sizR; split; exact adv_head; exact adv_head.trans adv_max
theorem adv_acc : Adv s (accR l s) := adv_siz.trans adv_rights
theorem adv_sto : Adv s (stoR l s) := (adv_acc.trans adv_take).trans adv_take
theorem adv_lim : Adv s (limR l s) := by unfold limR; split; exact (adv_sto.trans adv_step).trans adv_rng; exact adv_sto
theorem ent_adv (h : (entR l s).err = 0) : s.pos < (entR l s).pos := by
  have h1 : Adv s (needR l (needR l (limR l s) 5 [61]) (entK l s) []) := (adv_lim.trans adv_need).trans adv_need
  have h2 : entR l s = needR l (needR l (needR l (limR l s) 5 [61]) (entK l s) []) 5 [59] := rfl
  rw [h2] at h ⊢
  rw [(need_ok h).2.2]
  exact Nat.lt_succ_of_le h1.1
theorem needT_len {m : Nat} (h : ∀ t ∈ l, t.text.length ≤ m) : (needT l s k).text.length ≤ m := by
  unfold needT
  split
  · rename_i hi
    have hp := (is_lt hi).1
    have : l.getD s.pos tk0 = l[s.pos] := by simp [List.getD, List.getElem?_eq_getElem hp]
    rw [this]
    exact h _ (List.getElem_mem hp)
  · exact Nat.zero_le _
theorem pl_small {s : List UInt8} : ∀ {ts : List Tk} {p : Nat}, Pl s p ts → ∀ t ∈ ts, t.text.length ≤ s.length
  | [], _, _, _, h => by cases h
  | t :: ts, p, h, u, hu => by
    rcases List.mem_cons.1 hu with rfl | hu
    · have h4 := h.2.2.2.1
      have := tok_len (s := s.drop u.pl) (by rw [h4])
      rw [h4, List.length_drop] at this
      dsimp only at this
      omega
    · exact pl_small h.2.2.2.2 u hu
theorem scan_small {s : List UInt8} : ∀ t ∈ (scanS s).1, t.text.length ≤ s.length ∧ s.length ≤ 8192 := by
  intro t ht
  by_cases hb : 8192 < s.length
  · rw [show scanS s = ([], 3, 0) from if_pos hb] at ht; cases ht
  rcases scanS_all (s := s) (by omega) with ⟨ts, h1, h2, _⟩ | ⟨ts, e, r, h1, _⟩
  · rw [h1] at ht
    exact ⟨pl_small h2 t ht, by omega⟩
  · rw [h1] at ht; cases ht
theorem ent_len {m : Nat} (h : ∀ t ∈ l, t.text.length ≤ m) : (entE l s).name.length ≤ m ∧ (entV l s).length ≤ m := ⟨needT_len h, needT_len h⟩
end
/-! ### a round -/
section
variable {l : List Tk} {n k p : Nat} {out : List En}
theorem par_end (h : l.length ≤ p) : parF l n k p out = (out, 0, 0) := by
  cases k with
  | zero => rfl
  | succ k => rw [parF, if_pos h]
theorem par_bad (h : p < l.length) (hk : l.length < p + k) (he : (entR l ⟨p, 0⟩).err ≠ 0) : parF l n k p out = ([], (entR l ⟨p, 0⟩).err, placeS l n (entR l ⟨p, 0⟩).pos) := by
  obtain ⟨k, rfl⟩ : ∃ j, k = j + 1 := ⟨k - 1, by omega⟩
  rw [parF, if_neg (by omega), if_pos he]
theorem par_fin (h : p < l.length) (hk : l.length < p + k) (he : (entR l ⟨p, 0⟩).err = 0) (hf : finS out (entE l ⟨p, 0⟩) (entV l ⟨p, 0⟩) ≠ 0) : parF l n k p out = ([], finS out (entE l ⟨p, 0⟩) (entV l ⟨p, 0⟩), placeS l n p) := by
  obtain ⟨k, rfl⟩ : ∃ j, k = j + 1 := ⟨k - 1, by omega⟩
  rw [parF, if_neg (by omega), if_neg (by rw [he]; simp), if_pos hf]
theorem par_step (h : p < l.length) (hk : l.length < p + k) (he : (entR l ⟨p, 0⟩).err = 0) (hf : finS out (entE l ⟨p, 0⟩) (entV l ⟨p, 0⟩) = 0) : parF l n k p out = parF l n (k - 1) (entR l ⟨p, 0⟩).pos (out ++ [{ entE l ⟨p, 0⟩ with dflt := (Ty.parseS (entE l ⟨p, 0⟩).type (entV l ⟨p, 0⟩)).1 }]) := by
  obtain ⟨k, rfl⟩ : ∃ j, k = j + 1 := ⟨k - 1, by omega⟩
  rw [parF, if_neg (by omega), if_neg (by rw [he]; simp), if_neg (by rw [hf]; simp), Nat.add_sub_cancel]
theorem fin_96 {e : En} {v : List UInt8} (h : finS out e v = 0) : out.length ≠ 96 := by
  intro h96
  unfold finS at h
  split at h
  · rename_i h1; exact h1 h
  split at h
  · rename_i h1; exact h1 h
  exact absurd (show (3 : Int) = 0 by first | exact h | (rw [if_pos h96] at h; exact h)) (by decide)
end
end Go.Proofs.YtmolmpgampmolaaGreat.Ed
namespace Go.Proofs.YtmolmpgampmolaaGreat
set_option linter.unusedVariables false
set_option linter.unusedSimpArgs false
open Go.RowKit Go.Sort
theorem OV.past {w w' : World} {g base e size n c : Nat} {A : Option Addr} {xs : List Value} (h : OV w base e size A n c xs) (hg : g < base) (hm : Mv (fun b => b = g) w w') : OV w' base e size A n c xs := OV.kept h hm.grown (by
  cases hk : (Value.slice A n c).ownBlock with
  | none => exact .inl rfl
  | some k => exact .inr (by have := (h.lt k hk).1; intro e; cases e; omega))
/-- Entries of the call's own. -/
def OEn (w : World) (base : Nat) (A : Option Addr) (n c : Nat) (es : List Ent.En) : Prop := OS (EnB w base) w base 31 11 A n c es
section
variable {w w' : World} {g base n c : Nat} {A : Option Addr} {es : List Ent.En}
theorem OEn.none_ (w : World) (base : Nat) : OEn w base none 0 0 [] := OS.none_ _ _ _ _
theorem OEn.below (h : OEn w base A n c es) (hb : Below w.heap.size w w') : OEn w' base A n c es := OS.below h hb fun _ _ k => k.below hb
theorem OEn.past (h : OEn w base A n c es) (hg : g < base) (hm : Mv (fun b => b = g) w w') : OEn w' base A n c es := by
  obtain ⟨xs, h1, h2⟩ := h
  refine ⟨xs, h1.past hg hm, h2.imp fun e cs k => ?_⟩
  obtain ⟨A1, n1, c1, k1, k2⟩ := k
  exact ⟨A1, n1, c1, k1, OV.past (show OV w base 5 1 A1 n1 c1 _ from k2) hg hm⟩
theorem OEn.more {base' : Nat} (h : OEn w base A n c es) (hb : base' ≤ base) : OEn w base' A n c es := OS.more h hb fun e cs k => by
  obtain ⟨A1, n1, c1, k1, k2⟩ := k
  exact ⟨A1, n1, c1, k1, k2.more hb⟩
theorem OEn.len (h : OEn w base A n c es) : es.length = n := OS.len h (by decide)
theorem OEn.ren (h : OEn w base A n c es) : REn w w.heap.size w.heap.size A n c es := RS.imp (OS.rs h) fun e cs k => by
  obtain ⟨A1, n1, c1, k1, k2⟩ := k
  exact ⟨A1, n1, c1, k1, k2.rb⟩
end
/-- What Parse hands back. -/
def ParPost (p : List Ent.En × Int × Nat) (w : World) (e : Ending) (w' : World) : Prop := ∃ A c, e = .returned (.tuple #[.slice A p.1.length c, .int .i64 p.2.1, .int .i64 (p.2.2 : Int)]) ∧ OEn w' w.heap.size A p.1.length c p.1 ∧ Below w.heap.size w w'
theorem par_none {p : List Ent.En × Int × Nat} {w w' : World} {x y : Int} {q : Nat} (h : p = ([], x, q)) (hy : y = (q : Int)) (hb : Below w.heap.size w w') : ParPost p w (.returned (.tuple #[.slice none 0 0, .int .i64 x, .int .i64 y])) w' := by
  subst h hy
  exact ⟨none, 0, rfl, OEn.none_ _ _, hb⟩
theorem par_some {p : List Ent.En × Int × Nat} {w w' : World} {A : Option Addr} {n c : Nat} {es : List Ent.En} (h : p = (es, 0, 0)) (hn : es.length = n) (ho : OEn w' w.heap.size A n c es) (hb : Below w.heap.size w w') : ParPost p w (.returned (.tuple #[.slice A n c, .int .i64 0, .int .i64 0])) w' := by
  subst h hn
  exact ⟨A, c, rfl, ho, hb⟩
def rowLen : Value → Nat | .slice _ n _ => n | _ => 0
set_option maxRecDepth 100000 in
set_option maxHeartbeats 8000000 in
theorem EParse_any (s : List UInt8) (w : World) (hs : s.length ≤ 1000000) : Calls Tryz.prog 6 #[.string (T s)] w (ParPost (Ed.parseS s) w) := by
  have SC := Scan_any s w hs
  have hsm := Ed.scan_small (s := s)
  have hps : Ed.parseS s = if (Lx.scanS s).2.1 ≠ 0 then ([], (Lx.scanS s).2.1, (Lx.scanS s).2.2) else Ed.parF (Lx.scanS s).1 s.length ((Lx.scanS s).1.length + 1) 0 [] := rfl
  unfold ScanPost at SC
  generalize Lx.scanS s = sc at *
  obtain ⟨ts, se, sq⟩ := sc
  dsimp only at SC hsm hps
  by_cases hse : se = 0
  case neg =>
    rw [if_pos hse] at hps
    have HP := Lib.hid hps
    have e1 : (se != 0) = true := by simpa using hse
    replace SC := Lib.hid SC
    clear hps hsm hse
    go_enter Tryz.func6, Tryz.ntmps6
    go_wp2_with fail
    refine (SC.out).mono ?_
    rintro e w1 ⟨A, c, rfl, _, b1⟩
    go_wp2_with fail
    go_ret3
    exact par_none HP.out rfl b1
  subst hse
  rw [if_neg (by simp)] at hps
  have HP := Lib.hid hps
  have HSM := Lib.hid hsm
  replace SC := Lib.hid SC
  clear hps hsm
  go_enter Tryz.func6, Tryz.ntmps6
  go_wp2_with fail
  refine (SC.out).mono ?_
  rintro e w1 ⟨A, c, rfl, ot, b1⟩
  have b2 := alloc_one w1 (.cells #[.slice A ts.length c, .int .i64 0, .int .i64 0, .string (T s)] 46)
  have K0 := Blk.new w1 46 #[.slice A ts.length c, .int .i64 0, .int .i64 0, .string (T s)]
  have R0 : RdM (w1.alloc (.cells #[.slice A ts.length c, .int .i64 0, .int .i64 0, .string (T s)] 46)) w1.heap.size A ts.length c ts s ⟨0, 0⟩ := ⟨K0, ot.rs.below b2, Nat.zero_le _⟩
  have d2 := below_step b1 b2 (Nat.le_refl _)
  have hg2 := K0.lt
  have hbg := b1.size
  clear SC ot b1 b2 K0
  generalize hg : w1.heap.size = g at *
  go_wp2_with fail
  go_loopw [9] (fun v wr => ∃ (k p : Nat) (es : List Ent.En) (A1 : Option Addr) (c1 : Nat), v = .slice A1 es.length c1 ∧ ts.length < p + k ∧ es.length ≤ 96 ∧ Hid (Ed.parseS s = Ed.parF ts s.length k p es) ∧ RdM wr g A ts.length c ts s ⟨p, 0⟩ ∧ OEn wr (g + 1) A1 es.length c1 es ∧ Below w.heap.size w wr) (fun v _ => 97 - rowLen v)
  case atStart => exact ⟨ts.length + 1, 0, [], none, 0, rfl, by omega, by simp, HP, R0, OEn.none_ _ _, d2⟩
  case round =>
    obtain ⟨k, p, es, A1, c1, rfl, hk, h96, HG, RR, OO, bb⟩ := hrel
    have FR := RR.blk.four
    by_cases hp : ts.length ≤ p
    · have HE := Lib.hid (HG.out.trans (Ed.par_end hp))
      have e1 : (ts.length : Int) ≤ (p : Int) := by omega
      clear HG hp
      go_wp2_with fail
      go_ret3
      exact par_some HE.out rfl (OO.more (by omega)) bb
    have hplt : p < ts.length := by omega
    have hp2 : (p : Int) < (ts.length : Int) := by omega
    have PL := place_any RR hs
    have ELEN := Ed.ent_len (l := ts) (s := ⟨p, 0⟩) (m := 8192) (fun t ht => by have := HSM.out t ht; omega)
    have hadv := Ed.ent_adv (l := ts) (s := ⟨p, 0⟩)
    have hbad := Ed.par_bad (n := s.length) (out := es) hplt hk
    have hfin := Ed.par_fin (n := s.length) (out := es) hplt hk
    have hstp := Ed.par_step (n := s.length) (out := es) hplt hk
    have h96f := Ed.fin_96 (out := es) (e := Ed.entE ts ⟨p, 0⟩) (v := Ed.entV ts ⟨p, 0⟩)
    have EN := fun (w1 : World) (H : RdM w1 g A ts.length c ts s ⟨p, 0⟩) => entry_any H
    have hgl := RR.blk.lt
    generalize Ed.entR ts ⟨p, 0⟩ = r1 at *
    generalize Ed.entE ts ⟨p, 0⟩ = en at *
    generalize Ed.entV ts ⟨p, 0⟩ = ev at *
    dsimp only at hadv PL
    generalize Ed.placeS ts s.length p = pl at *
    unfold enV at EN
    obtain ⟨rp, re⟩ := r1
    dsimp only at hadv hbad hfin hstp
    have hv := ELEN.2
    have hnm := ELEN.1
    replace PL := Lib.hid PL
    replace EN := Lib.hid EN
    clear ELEN hp
    by_cases hre : re = 0
    case neg =>
      have HB := Lib.hid (HG.out.trans (hbad hre))
      have eb : (re != 0) = true := by simpa using hre
      clear hbad hfin hstp hadv h96f HG hre
      go_wp2_with fail
      refine (PL.out).mono ?_
      rintro e w2 ⟨rfl, b2⟩
      have R2 := RR.below b2
      have O2 := OO.below b2
      have EN2 := Lib.hid (EN.out w2 R2)
      clear PL EN RR OO FR
      go_wp2_with fail
      refine (EN2.out).mono ?_
      rintro e w3 ⟨rfl, m3, R3⟩
      have O3 := O2.past (Nat.lt_succ_self g) m3
      have b4 := alloc_one w3 (.cells #[.int .i64 en.index, .int .i64 en.sub, .string (T en.name), .int .i64 en.type, .int .i64 en.access, .bool en.map, .bool en.store, .int .i64 en.max, .int .i64 en.low, .int .i64 en.high, .slice none 0 0] 31)
      have K4 := Blk.new w3 31 #[.int .i64 en.index, .int .i64 en.sub, .string (T en.name), .int .i64 en.type, .int .i64 en.access, .bool en.map, .bool en.store, .int .i64 en.max, .int .i64 en.low, .int .i64 en.high, .slice none 0 0]
      have R4 := R3.below b4
      have F4 := R4.blk.four
      clear O2
      have g2 := cell_regrown (R4.blk.cell 2)
      have PL2 := Lib.hid (place_any (R4.below (below_drew _)) hs)
      have D4 := ((bb.trans (b2.mono bb.size)).trans (m3.below (Nat.le_trans bb.size b2.size) (fun q e => by rw [e]; omega))).alloc (Nat.le_trans bb.size (Nat.le_trans b2.size m3.size)) (.cells #[.int .i64 en.index, .int .i64 en.sub, .string (T en.name), .int .i64 en.type, .int .i64 en.access, .bool en.map, .bool en.store, .int .i64 en.max, .int .i64 en.low, .int .i64 en.high, .slice none 0 0] 31)
      clear R2 R3 O3 EN2 K4 m3 b2 b4
      go_wp2_with fail
      generalize hw4 : w3.alloc (.cells #[.int .i64 en.index, .int .i64 en.sub, .string (T en.name), .int .i64 en.type, .int .i64 en.access, .bool en.map, .bool en.store, .int .i64 en.max, .int .i64 en.low, .int .i64 en.high, .slice none 0 0] 31) = w4 at *
      refine region_later (by kernel_rfl) ?_
      refine phase_later (by kernel_rfl) 4 (below_drew _) [0, 5, 1, 2, 3, 4] rfl (by kernel_rfl) ?_
      simp only [picks, nth]
      repeat (go_big_quiet_step (fail))
      refine wpQuiet_nil ?_
      refine phase_op 6 3 rfl (by kernel_rfl) (by decide) ?_
      simp only [nth]
      go_wp2_with fail
      refine (PL2.out).mono ?_
      rintro e w5 ⟨rfl, b5⟩
      have b6 : Below w4.heap.size w4 w5 := (below_drew w4).trans b5
      go_wp2_with fail
      refine behind_later b6 ?_
      refine phase_later (by kernel_rfl) 0 (Below.refl _ _) [7, 8, 9] rfl (by kernel_rfl) ?_
      simp only [picks, nth]
      repeat (go_big_quiet_step (fail))
      refine wpQuiet_nil ?_
      refine phase_end (by kernel_rfl) ?_
      go_wp2_with fail
      go_ret3
      exact par_none HB.out rfl (D4.trans (b6.mono D4.size))
    subst hre
    by_cases hfs : Ed.finS es en ev = 0
    case neg =>
      have HB := Lib.hid (HG.out.trans (hfin rfl hfs))
      have eb : (Ed.finS es en ev != 0) = true := by simpa using hfs
      have HF := Lib.hid hfs
      clear hbad hfin hstp hadv h96f HG hfs
      go_wp2_with fail
      refine (PL.out).mono ?_
      rintro e w2 ⟨rfl, b2⟩
      have R2 := RR.below b2
      have O2 := OO.below b2
      have EN2 := Lib.hid (EN.out w2 R2)
      clear PL EN RR OO FR
      go_wp2_with fail
      refine (EN2.out).mono ?_
      rintro e w3 ⟨rfl, m3, R3⟩
      have O3 := O2.past (Nat.lt_succ_self g) m3
      have b4 := alloc_one w3 (.cells #[.int .i64 en.index, .int .i64 en.sub, .string (T en.name), .int .i64 en.type, .int .i64 en.access, .bool en.map, .bool en.store, .int .i64 en.max, .int .i64 en.low, .int .i64 en.high, .slice none 0 0] 31)
      have K4 := Blk.new w3 31 #[.int .i64 en.index, .int .i64 en.sub, .string (T en.name), .int .i64 en.type, .int .i64 en.access, .bool en.map, .bool en.store, .int .i64 en.max, .int .i64 en.low, .int .i64 en.high, .slice none 0 0]
      have R4 := R3.below b4
      have F4 := R4.blk.four
      clear O2
      have D3 := (bb.trans (b2.mono bb.size)).trans (m3.below (Nat.le_trans bb.size b2.size) (fun q e => by rw [e]; omega))
      have FIN := Lib.hid (finish_any en ev K4 ((O3.ren).below b4 (Nat.le_refl _)) (by omega) (by omega))
      clear R2 R4 EN2 m3 b2 K4
      go_wp2_with fail
      refine (FIN.out).mono ?_
      rintro e w5 ⟨rfl, m5, k5⟩
      have B5 : Below w3.heap.size w3 w5 := b4.trans (m5.below b4.size (fun q e => by rw [e]; exact Nat.le_refl _))
      clear FIN
      go_wp2_with fail
      go_ret3
      exact par_none HB.out rfl (D3.trans (B5.mono D3.size))
    have HB := Lib.hid (HG.out.trans (hstp rfl hfs))
    have hrp := hadv rfl
    have hne96 := h96f hfs
    have hlt96 : es.length + 1 ≤ 96 := by omega
    have HFS := Lib.hid hfs
    have HHP := Lib.hid hrp
    clear hbad hfin hstp hadv h96f HG hrp hne96
    go_wp2_with fail
    refine (PL.out).mono ?_
    rintro e w2 ⟨rfl, b2⟩
    have R2 := RR.below b2
    have O2 := OO.below b2
    have EN2 := Lib.hid (EN.out w2 R2)
    clear PL EN RR OO FR
    go_wp2_with fail
    refine (EN2.out).mono ?_
    rintro e w3 ⟨rfl, m3, R3⟩
    have O3 := O2.past (Nat.lt_succ_self g) m3
    have b4 := alloc_one w3 (.cells #[.int .i64 en.index, .int .i64 en.sub, .string (T en.name), .int .i64 en.type, .int .i64 en.access, .bool en.map, .bool en.store, .int .i64 en.max, .int .i64 en.low, .int .i64 en.high, .slice none 0 0] 31)
    have K4 := Blk.new w3 31 #[.int .i64 en.index, .int .i64 en.sub, .string (T en.name), .int .i64 en.type, .int .i64 en.access, .bool en.map, .bool en.store, .int .i64 en.max, .int .i64 en.low, .int .i64 en.high, .slice none 0 0]
    have R4 := R3.below b4
    have F4 := R4.blk.four
    clear O2
    have D3 := (bb.trans (b2.mono bb.size)).trans (m3.below (Nat.le_trans bb.size b2.size) (fun q e => by rw [e]; omega))
    have FIN := Lib.hid (finish_any en ev K4 ((O3.ren).below b4 (Nat.le_refl _)) (by omega) (by omega))
    clear R2 R4 EN2 m3 b2 K4
    go_wp2_with fail
    refine (FIN.out).mono ?_
    rintro e w5 ⟨he5, m5, k5⟩
    rw [HFS.out] at he5
    subst he5
    have B5 : Below w3.heap.size w3 w5 := b4.trans (m5.below b4.size (fun q e => by rw [e]; exact Nat.le_refl _))
    obtain ⟨A6, c6, K6, o6⟩ := k5 HFS.out
    have F6 := K6.eleven
    have R5 := R3.below B5
    have O5 := O3.below B5
    have D5 := D3.trans (B5.mono D3.size)
    have hg5 : g + 1 ≤ w3.heap.size := R3.blk.lt
    have hg4 := b4.size
    have hb4s : (w3.alloc (.cells #[.int .i64 en.index, .int .i64 en.sub, .string (T en.name), .int .i64 en.type, .int .i64 en.access, .bool en.map, .bool en.store, .int .i64 en.max, .int .i64 en.low, .int .i64 en.high, .slice none 0 0] 31)).heap.size = w3.heap.size + 1 := by simp [World.size_alloc]
    have o6' := o6.more (base' := g + 1) (by omega)
    clear FIN R3 O3 k5 K6 hb4s
    have b6 := alloc_one w5 (.cells #[.int .i64 en.index, .int .i64 en.sub, .string (T en.name), .int .i64 en.type, .int .i64 en.access, .bool en.map, .bool en.store, .int .i64 en.max, .int .i64 en.low, .int .i64 en.high, .slice A6 (Ty.parseS en.type ev).1.length c6] 31)
    have O6 := O5.below b6
    have R6 := R5.below b6
    have hnew := RV.new w5 31 (size := 11) (cs := enL { en with dflt := (Ty.parseS en.type ev).1 } A6 (Ty.parseS en.type ev).1.length c6) rfl
    have hf6 : EnB (w5.alloc (.cells #[.int .i64 en.index, .int .i64 en.sub, .string (T en.name), .int .i64 en.type, .int .i64 en.access, .bool en.map, .bool en.store, .int .i64 en.max, .int .i64 en.low, .int .i64 en.high, .slice A6 (Ty.parseS en.type ev).1.length c6] 31)) (g + 1) { en with dflt := (Ty.parseS en.type ev).1 } (enL { en with dflt := (Ty.parseS en.type ev).1 } A6 (Ty.parseS en.type ev).1.length c6) := ⟨A6, _, c6, rfl, o6'.below b6⟩
    have D6 := D5.alloc D5.size (.cells #[.int .i64 en.index, .int .i64 en.sub, .string (T en.name), .int .i64 en.type, .int .i64 en.access, .bool en.map, .bool en.store, .int .i64 en.max, .int .i64 en.low, .int .i64 en.high, .slice A6 (Ty.parseS en.type ev).1.length c6] 31)
    have hg6 : g + 1 ≤ (w5.alloc (.cells #[.int .i64 en.index, .int .i64 en.sub, .string (T en.name), .int .i64 en.type, .int .i64 en.access, .bool en.map, .bool en.store, .int .i64 en.max, .int .i64 en.low, .int .i64 en.high, .slice A6 (Ty.parseS en.type ev).1.length c6] 31)).heap.size := R6.blk.lt
    have hOwn := (show OS _ _ _ _ _ _ _ _ _ from O6)
    go_wp2_with (at_builtin; refine wpList_apps2 eten (fun w1 => EnB w1 (g + 1)) rfl (.tmp 64) (.tmp 66) rfl rfl rfl (g + 1) O6 { en with dflt := (Ty.parseS en.type ev).1 } hnew hf6 (en_oneCell _ _ _ _) (by omega) (by omega) hg6 (fun w1 A1 n1 c1 xs hv hg f cs hf => hf.beside hv (by decide) hg) ?_; intro A7 c7 w7 o7 b7 g7 _)
    have R7 : RdM w7 g A ts.length c ts s ⟨rp, 0⟩ := R6.mv (Mv.of_grown g7) fun q hq => by
      obtain ⟨xs, x1, _⟩ := O6
      have := (x1.lt q hq.symm).1
      omega
    have D7 : Below w.heap.size w w7 := D6.trans (b7.mono (by omega))
    have hlen7 : (es ++ [{ en with dflt := (Ty.parseS en.type ev).1 }]).length = es.length + 1 := by simp
    go_roundw
    case rel => exact ⟨k - 1, rp, es ++ [{ en with dflt := (Ty.parseS en.type ev).1 }], A7, c7, by rw [hlen7], by have := HHP.out; omega, by rw [hlen7]; exact hlt96, HB, R7, by rw [hlen7]; exact o7, D7⟩
    case measure => simp only [rowLen]; omega
end Go.Proofs.YtmolmpgampmolaaGreat
/-
  Walks: types.digits, the reference's Number.
  Conditions: none.
-/
namespace Go.Proofs.YtmolmpgampmolaaGreat
set_option linter.unusedVariables false
set_option linter.unusedSimpArgs false
open Go.RowKit
/-- The cells of a row of 20 from a on are the bytes s. -/
structure Tail (w : World) (g : Nat) (a : Nat) (s : List UInt8) : Prop where
  le : a ≤ 20
  len : s.length = 20 - a
  row : ∃ cs, Blk w g 138 cs ∧ cs.size = 20 ∧ ∀ i, i < 20 - a → cs[a + i]? = some (bv (s.getD i 0))
theorem Tail.step {w : World} {g a : Nat} {s : List UInt8} (h : Tail w g (a + 1) s) (x : UInt8) {v : Int} (hv : v = (x.toNat : Int)) : Tail (w.setCell ⟨g, a, none⟩ (.int .u8 v)) g a (x :: s) := by
  obtain ⟨h1, h2, cs, hb, hs, hc⟩ := h
  subst hv
  refine ⟨by omega, by simp [h2]; omega, _, hb.set_ a _, by simpa using hs, fun i hi => ?_⟩
  rw [Array.getElem?_setIfInBounds]
  cases i with
  | zero => rw [if_pos (by omega), if_pos (by omega)]; rfl
  | succ i =>
    rw [if_neg (by omega)]
    have := hc i (by omega)
    rw [show a + (i + 1) = a + 1 + i by omega, this]
    rfl
theorem Tail.rb {w : World} {g a : Nat} {s : List UInt8} (h : Tail w g a s) : RB w w.heap.size (some ⟨g, a, none⟩) (20 - a) (20 - a) s := by
  obtain ⟨h1, h2, cs, hb, hs, hc⟩ := h
  refine ⟨h2, Nat.le_refl _, by omega, (fun e => by cases e), fun hk => ⟨g, a, rfl, hb.lt, fun i hi => ?_⟩⟩
  rw [hb.cell]
  exact hc i hi
theorem Tail.cell {w : World} {g a : Nat} {s : List UInt8} (h : Tail w g (a + 1) s) : (∃ u, w.cell? ⟨g, a, none⟩ = some u) ∧ w.frozen? ⟨g, a, none⟩ = false ∧ g < w.heap.size := by
  obtain ⟨h1, h2, cs, hb, hs, hc⟩ := h
  refine ⟨⟨cs[a]'(by omega), ?_⟩, hb.frozen _, hb.lt⟩
  rw [hb.cell, Array.getElem?_eq_getElem]
theorem run_arr_rest (g a : Nat) (ha : a < 20) {z : Int} (hz : z = (a : Int)) (w : World) : (Instr.sliceAt 138 (.pointer (some ⟨g, 0, none⟩)) (some (.int .i64 z)) none none).run Tryz.prog w = .ok (.slice (some ⟨g, a, none⟩) (20 - a) (20 - a)) w := by
  subst hz
  have hl : Tryz.prog.arrayLen 138 = 20 := by kernel_rfl
  have he : Tryz.prog.elem 138 = 5 := by kernel_rfl
  have ht : Tryz.prog.underlying 138 = some (.array (Tryz.prog.arrayLen 138) (Tryz.prog.elem 138)) := by rw [hl, he]; exact Tryz.underlying138
  rw [run_sliceAt_array_l w _ _ ht .i64 (a : Int) (by omega) (by rw [hl]; omega), hl, he]
  have hs : (sizeOf 5).run Tryz.prog w = .ok 1 w := run_sizeOf etb w
  rw [hs]
  simp only [Result.andThen, slicedAt, Int.toNat_natCast, if_neg (show ¬ 20 = a by omega), Addr.add_lit, Nat.mul_one, Nat.zero_add]
theorem Tail.fresh {w : World} {g a : Nat} {s : List UInt8} (h : Tail w g a s) : RB w (g + 1) (some ⟨g, a, none⟩) (20 - a) (20 - a) s := by
  obtain ⟨h1, h2, cs, hb, hs, hc⟩ := h
  refine ⟨h2, Nat.le_refl _, by omega, (fun e => by cases e), fun hk => ⟨g, a, rfl, by omega, fun i hi => ?_⟩⟩
  rw [hb.cell]
  exact hc i hi
theorem decF_short : ∀ (j k N : Nat), 1 ≤ j → N < 10 ^ j → (Ty.decF k N).length ≤ j
  | _, 0, _, _, _ => by simp [Ty.decF]
  | j, k + 1, N, hj, h => by
    rw [Ty.decF, List.length_append]
    split
    · simp; omega
    · rename_i h0
      obtain ⟨j, rfl⟩ : ∃ i, j = i + 1 := ⟨j - 1, by omega⟩
      have h1 : 1 ≤ j := by
        rcases Nat.eq_zero_or_pos j with e | e
        · subst e; simp at h; omega
        · exact e
      have := decF_short j k (N / 10) h1 (by rw [Nat.pow_succ] at h; omega)
      simp only [List.length_cons, List.length_nil]
      omega
set_option maxRecDepth 100000 in
set_option maxHeartbeats 4000000 in
theorem digits_walk (n : Int) (w : World) (h1 : -9223372036854775808 ≤ n) (h2 : n ≤ 9223372036854775807) : Calls Tryz.prog 80 #[.int .i64 n] w fun e w' => e = .returned (.string (T (Ty.numT n))) ∧ Below w.heap.size w w' := by
  obtain ⟨N, hN, hT⟩ : ∃ N : Nat, ((n < 0 ∧ IntKind.u64.wrap (-IntKind.u64.wrap n) = (N : Int)) ∨ (0 ≤ n ∧ n = (N : Int))) ∧ N ≤ 9223372036854775808 ∧ Ty.numT n = (if n < 0 then 45 :: Ty.decF 20 N else Ty.decF 20 N) := by
    refine ⟨n.natAbs, ?_, by omega, rfl⟩
    by_cases hn : n < 0
    · exact .inl ⟨hn, by rw [IntKind.wrap_u64, IntKind.wrap_u64]; omega⟩
    · exact .inr ⟨by omega, by omega⟩
  obtain ⟨hN2, hT⟩ := hT
  have K0 := Blk.new w 138 (Array.replicate 20 (.int .u8 0))
  have T0 : Tail (w.alloc (.cells (Array.replicate 20 (.int .u8 0)) 138)) w.heap.size 20 [] := ⟨by omega, rfl, _, K0, by simp, fun i hi => absurd hi (by omega)⟩
  rw [show (Array.replicate 20 (Value.int .u8 0)) = #[.int .u8 0, .int .u8 0, .int .u8 0, .int .u8 0, .int .u8 0, .int .u8 0, .int .u8 0, .int .u8 0, .int .u8 0, .int .u8 0, .int .u8 0, .int .u8 0, .int .u8 0, .int .u8 0, .int .u8 0, .int .u8 0, .int .u8 0, .int .u8 0, .int .u8 0, .int .u8 0] from rfl] at T0
  have b0 := alloc_one w (.cells #[.int .u8 0, .int .u8 0, .int .u8 0, .int .u8 0, .int .u8 0, .int .u8 0, .int .u8 0, .int .u8 0, .int .u8 0, .int .u8 0, .int .u8 0, .int .u8 0, .int .u8 0, .int .u8 0, .int .u8 0, .int .u8 0, .int .u8 0, .int .u8 0, .int .u8 0, .int .u8 0] 138)
  have HT := Lib.hid hT
  clear K0 hT
  rcases hN with ⟨hn, hw⟩ | ⟨hn, rfl⟩
  all_goals
    go_enter Tryz.func80, Tryz.ntmps80
    go_wp2_with fail
    go_loopw [4, 5] (fun x m wr => ∃ (a : Nat) (M : Nat) (s : List UInt8), 1 ≤ a ∧ a ≤ 20 ∧ M ≤ N ∧ x = .int .i64 (a : Int) ∧ m = .int .u64 (M : Int) ∧ M < 10 ^ a ∧ Tail wr w.heap.size a s ∧ Ty.decF 20 N = Ty.decF a M ++ s ∧ Below w.heap.size w wr) (fun x _ _ => (intOf x).toNat)
    case atStart => exact ⟨20, N, [], by omega, by omega, Nat.le_refl _, rfl, rfl, Nat.lt_of_le_of_lt hN2 (by decide), T0, by simp, b0⟩
    case round =>
      clear T0 b0
      obtain ⟨a, M, s, ha1, ha, hM, rfl, rfl, hlt, tl, hd, bb⟩ := hrel
      obtain ⟨a, rfl⟩ : ∃ j, a = j + 1 := ⟨a - 1, by omega⟩
      obtain ⟨⟨u, hu⟩, hfr, hlg⟩ := tl.cell
      have hz := bb.size
      have hv : (48 + ((M : Int) % 10)) = ((Ty.dgt (M % 10)).toNat : Int) := by rw [Ty.dgt_toNat (Nat.mod_lt _ (by decide))]; omega
      have ts := tl.step (Ty.dgt (M % 10)) hv
      have HTS := Lib.hid ts
      have he : Ty.decF (a + 1) M = (if M / 10 = 0 then [] else Ty.decF a (M / 10)) ++ [Ty.dgt (M % 10)] := rfl
      have hq : M / 10 < 10 ^ a := by rw [Nat.pow_succ] at hlt; omega
      have HD := Lib.hid hd; have HE := Lib.hid he; have HQ := Lib.hid hq
      clear ts tl hv hd he hlt hq
      by_cases hM0 : M / 10 = 0
      · have hz1 : ((M : Int) / 10 == 0) = true := by rw [beq_iff_eq]; omega
        have hts := HTS.out
        have htot : Ty.decF 20 N = Ty.dgt (M % 10) :: s := by rw [HD.out, HE.out, if_pos hM0]; rfl
        have HTOT := Lib.hid htot
        have hb2 := bb.setCell (p := ⟨w.heap.size, a, none⟩) (Nat.le_refl _) (.int .u8 (48 + ((M : Int) % 10)))
        have hz2 : 1 ≤ a := by
          have h1 := decF_short 19 20 N (by omega) (Nat.lt_of_le_of_lt hN2 (by decide))
          rw [htot] at h1
          have h2 := hts.len
          have h3 := hts.le
          omega
        obtain ⟨j, rfl⟩ : ∃ j, a = j + 1 := ⟨a - 1, by omega⟩
        obtain ⟨⟨u2, hu2⟩, hfr2, hlg2⟩ := hts.cell
        have hts2 := hts.step 45 (v := 45) rfl
        have hb3 := hb2.setCell (p := ⟨w.heap.size, j, none⟩) (Nat.le_refl _) (.int .u8 45)
        have ra1 := fun w' => run_arr_rest w.heap.size (j + 1) (by omega) (z := (j : Int) + 1) (by omega) w'
        have ra2 := fun w' => run_arr_rest w.heap.size j (by omega) rfl w'
        have e1 := convb hts.rb
        have e2 := convb hts2.rb
        have e20 : 20 - (j + 1) = 19 - j := by omega
        rw [e20] at e1
        simp only [e20] at ra1
        clear e20
        have HB2 := Lib.hid hb2; have HB3 := Lib.hid hb3
        clear hts hts2 hM0 hb2 hb3
        go_wp2_with fail
        go_ret
        first
          | exact ⟨by rw [HT.out, if_pos hn, HTOT.out]; rfl, HB3.out⟩
          | exact ⟨by rw [HT.out, if_neg (by omega), HTOT.out]; rfl, HB2.out⟩
      · have hz1 : ((M : Int) / 10 == 0) = false := by rw [beq_eq_false_iff_ne]; omega
        have ha2 : 1 ≤ a := by
          rcases Nat.eq_zero_or_pos a with e | e
          · subst e; have := HQ.out; simp at this; omega
          · exact e
        have hle : M / 10 ≤ N := by omega
        have HM0 := Lib.hid hM0; clear hM0
        go_wp2_with fail
        go_roundw
        case rel => exact ⟨a, M / 10, _, ha2, by omega, hle, by go_num, by go_num, HQ.out, HTS.out, by rw [HD.out, HE.out, if_neg HM0.out]; simp, bb.setCell (p := ⟨w.heap.size, a, none⟩) (Nat.le_refl _) _⟩
        case measure => simp [intOf] <;> omega
end Go.Proofs.YtmolmpgampmolaaGreat
/-
  Walk: the reference's Number.
  Conditions: none.
-/
namespace Go.Proofs.YtmolmpgampmolaaGreat
set_option linter.unusedVariables false
set_option linter.unusedSimpArgs false
open Go.RowKit
theorem decd_cut : ∀ j : Fin 10, ((⟨#[48, 49, 50, 51, 52, 53, 54, 55, 56, 57]⟩ : ByteArray).extract j.val (j.val + 1)).data.toList = [Ty.dgt j.val] := by decide
theorem run_decd_cut (k1 k2 : IntKind) (z1 z2 : Int) (k : Nat) (h1 : z1 = (k : Int)) (h2 : z2 = (k : Int) + 1) (hk : k < 10) (w : World) :
    (Instr.slice 9 (.string ⟨#[48, 49, 50, 51, 52, 53, 54, 55, 56, 57]⟩) (some (.int k1 z1)) (some (.int k2 z2)) none).run Tryz.prog w = .ok (.string (T [Ty.dgt k])) w := by
  have e := run_T_cut [48, 49, 50, 51, 52, 53, 54, 55, 56, 57] k1 k2 z1 z2 k (k + 1) h1 (by omega) (by omega) (by simp; omega) (by decide) w
  have e2 : (List.take (k + 1) [48, 49, 50, 51, 52, 53, 54, 55, 56, 57]).drop k = [Ty.dgt k] := by
    have := decd_cut ⟨k, hk⟩
    have h3 : (T [48, 49, 50, 51, 52, 53, 54, 55, 56, 57]).extract k (k + 1) = T ((List.take (k + 1) [48, 49, 50, 51, 52, 53, 54, 55, 56, 57]).drop k) := T_extract _ _ _
    have h4 : ((T [48, 49, 50, 51, 52, 53, 54, 55, 56, 57]).extract k (k + 1)).data.toList = [Ty.dgt k] := this
    rw [h3] at h4
    simpa [T] using h4
  rw [e2] at e
  exact e
/-- The number of a slot. -/
def absOf : Value → Nat
  | .int _ z => z.natAbs
  | _ => 0
theorem num_next {a M N : Nat} {s : List UInt8} (h0 : M ≠ 0) (hlt : M < 10 ^ a) (h : Ty.decF 20 N = (if M = 0 then [] else Ty.decF a M) ++ s) : ∃ b, M / 10 < 10 ^ b ∧ Ty.decF 20 N = (if M / 10 = 0 then [] else Ty.decF b (M / 10)) ++ (Ty.dgt (M % 10) :: s) := by
  rw [if_neg h0] at h
  cases a with
  | zero => simp at hlt; omega
  | succ b =>
    refine ⟨b, by rw [Nat.pow_succ] at hlt; omega, ?_⟩
    rw [h, Ty.decF]
    simp
set_option maxRecDepth 100000 in
set_option maxHeartbeats 4000000 in
theorem RNumber_any (n : Int) (w : World) (h1 : -9223372036854775808 ≤ n) (h2 : n ≤ 9223372036854775807) : Calls Tryz.prog 38 #[.int .i64 n] w fun e w' => e = .returned (.string (T (Ty.numT n))) ∧ w = w' := by
  by_cases h0 : n = 0
  · subst h0
    go_enter Tryz.func38, Tryz.ntmps38
    go_wp2_with fail
    go_ret
    exact ⟨rfl, rfl⟩
  · have hz : (n == 0) = false := by rw [beq_eq_false_iff_ne]; exact h0
    have hT : Ty.numT n = if n < 0 then 45 :: Ty.decF 20 n.natAbs else Ty.decF 20 n.natAbs := rfl
    have hN2 : n.natAbs ≤ 9223372036854775808 := by omega
    have hN0 : n.natAbs ≠ 0 := by omega
    have ha := fun (D : Nat) (s : List UInt8) (hs : s.length ≤ 100) w => run_T_add [Ty.dgt D] s (by simp; omega) w
    have hm := fun (s : List UInt8) (hs : s.length ≤ 100) w => run_T_add [45] s (by simp; omega) w
    have HA := Lib.hid ha; have HM := Lib.hid hm
    by_cases hn : n < 0
    · obtain ⟨N, rfl⟩ : ∃ N : Nat, n = -(N : Int) := ⟨n.natAbs, by omega⟩
      rw [if_pos hn, show (-(N : Int)).natAbs = N by omega] at hT
      rw [show (-(N : Int)).natAbs = N by omega] at hN0 hN2
      have HT := Lib.hid hT
      clear hT h0 ha hm
      go_enter Tryz.func38, Tryz.ntmps38
      go_wp2_with fail
      go_loop [3, 4] (fun v m => ∃ (a M : Nat) (s : List UInt8), M ≤ N ∧ v = .string (T s) ∧ m = .int .i64 (-(M : Int)) ∧ M < 10 ^ a ∧ s.length ≤ 20 ∧ Ty.decF 20 N = (if M = 0 then [] else Ty.decF a M) ++ s) (fun _ m => absOf m)
      case atStart => exact ⟨20, N, [], Nat.le_refl _, rfl, rfl, Nat.lt_of_le_of_lt hN2 (by decide), by simp, by rw [if_neg hN0]; simp⟩
      case round =>
        obtain ⟨a, M, s, hM, rfl, rfl, hlt, hsl, hd⟩ := hrel
        have HD := Lib.hid hd; have HLT := Lib.hid hlt; clear hd hlt
        by_cases hM0 : M = 0
        · subst hM0
          have hq : Ty.decF 20 N = s := by rw [HD.out, if_pos rfl]; rfl
          have HQ := Lib.hid hq; clear hq
          have hm : ∀ w, (Op.stringOp .add (⟨#[45]⟩ : ByteArray) (T s)).run Tryz.prog w = .ok (.string (T (45 :: s))) w := HM.out s (by omega)
          have e0 : ((-((0 : Nat) : Int)) != 0) = false := by decide
          go_wp2_with fail
          go_ret
          exact ⟨by rw [HT.out, HQ.out]; rfl, rfl⟩
        · obtain ⟨b, hb1, hb2⟩ := num_next hM0 HLT.out HD.out
          have hsl2 : (Ty.dgt (M % 10) :: s).length ≤ 20 := by
            have := Ty.decF_len 20 N
            rw [hb2, List.length_append] at this
            omega
          have e1 : (-(M : Int)).tmod 10 = -((M % 10 : Nat) : Int) := by rw [Int.neg_tmod]; rfl
          have e2 : (-(M : Int)).tdiv 10 = -((M / 10 : Nat) : Int) := by rw [Int.neg_tdiv]; rfl
          have e0 : (-(M : Int) != 0) = true := by rw [bne_iff_ne]; omega
          have hlt10 : M % 10 < 10 := Nat.mod_lt _ (by decide)
          have hle : M / 10 < M := by omega
          have HB1 := Lib.hid hb1; have HB2 := Lib.hid hb2; have HM0 := Lib.hid hM0
          clear hb1 hb2 hM0
          generalize M % 10 = D at *
          generalize M / 10 = M' at *
          have hc := fun w => run_decd_cut .i64 .i64 (D : Int) ((D : Int) + 1) D rfl rfl hlt10 w
          have ha := HA.out D s (by omega)
          rcases (show D = 0 ∨ 0 < D by omega) with h | h
          · subst h
            have hc0 : ∀ w, (Instr.slice 9 (.string ⟨#[48, 49, 50, 51, 52, 53, 54, 55, 56, 57]⟩) (some (.int .i64 0)) (some (.int .i64 1)) none).run Tryz.prog w = .ok (.string (T [Ty.dgt 0])) w := fun w => run_decd_cut .i64 .i64 0 1 0 rfl rfl (by decide) w
            have e3 : (-(M : Int)).tmod 10 = 0 := by rw [e1]; rfl
            clear e1 hc
            go_wp2_with fail
            go_round
            case rel => exact ⟨b, M', _, by omega, rfl, rfl, HB1.out, hsl2, HB2.out⟩
            case measure => simp [absOf] <;> omega
          · go_wp2_with fail
            go_round
            case rel => exact ⟨b, M', _, by omega, rfl, rfl, HB1.out, hsl2, HB2.out⟩
            case measure => simp [absOf] <;> omega
    · obtain ⟨N, rfl⟩ : ∃ N : Nat, n = (N : Int) := ⟨n.natAbs, by omega⟩
      rw [if_neg hn, show ((N : Int)).natAbs = N by omega] at hT
      rw [show ((N : Int)).natAbs = N by omega] at hN0 hN2
      have HT := Lib.hid hT
      clear hT h0 ha hm
      go_enter Tryz.func38, Tryz.ntmps38
      go_wp2_with fail
      go_loop [3, 4] (fun v m => ∃ (a M : Nat) (s : List UInt8), M ≤ N ∧ v = .string (T s) ∧ m = .int .i64 (M : Int) ∧ M < 10 ^ a ∧ s.length ≤ 20 ∧ Ty.decF 20 N = (if M = 0 then [] else Ty.decF a M) ++ s) (fun _ m => absOf m)
      case atStart => exact ⟨20, N, [], Nat.le_refl _, rfl, rfl, Nat.lt_of_le_of_lt hN2 (by decide), by simp, by rw [if_neg hN0]; simp⟩
      case round =>
        obtain ⟨a, M, s, hM, rfl, rfl, hlt, hsl, hd⟩ := hrel
        have HD := Lib.hid hd; have HLT := Lib.hid hlt; clear hd hlt
        by_cases hM0 : M = 0
        · subst hM0
          have hq : Ty.decF 20 N = s := by rw [HD.out, if_pos rfl]; rfl
          have HQ := Lib.hid hq; clear hq
          go_wp2_with fail
          go_ret
          exact ⟨by rw [HT.out, HQ.out]; rfl, rfl⟩
        · obtain ⟨b, hb1, hb2⟩ := num_next hM0 HLT.out HD.out
          have hsl2 : (Ty.dgt (M % 10) :: s).length ≤ 20 := by
            have := Ty.decF_len 20 N
            rw [hb2, List.length_append] at this
            omega
          have e0 : ((M : Int) != 0) = true := by rw [bne_iff_ne]; omega
          have hlt10 : M % 10 < 10 := Nat.mod_lt _ (by decide)
          have hle : M / 10 < M := by omega
          have hc := fun w => run_decd_cut .i64 .i64 ((M : Int) % 10) ((M : Int) % 10 + 1) (M % 10) (by omega) (by omega) hlt10 w
          have ha := HA.out (M % 10) s (by omega)
          have HB1 := Lib.hid hb1; have HB2 := Lib.hid hb2; have HM0 := Lib.hid hM0
          clear hb1 hb2 hM0
          go_wp2_with fail
          go_round
          case rel => exact ⟨b, M / 10, _, by omega, rfl, by go_num, HB1.out, hsl2, HB2.out⟩
          case measure => simp [absOf] <;> omega
end Go.Proofs.YtmolmpgampmolaaGreat
