/-
  Texts joined: PrmHrt, DicCopy, PrmGrd, PhaseTwo.
  Conditions: none.
-/
import Derived.Test.YtgkhpebhhkdgoaaJ03
import Derived.Test.YtgkhpebhhkdgoaaJ05
import Derived.Test.YtgkhpebhhkdgoaaJ07
import Derived.Test.YtgkhpebhhkdgoaaJ08
import Derived.Test.YtgkhpebhhkdgoaaJ15
import Derived.Deep.WholeRow
import Derived.Deep.QuietTactic
import Derived.BigQuiet
import Derived.IntWalk
/-
  Walks: which nodes are watched, as far as layer 33 asks.
  Conditions: none.
-/
namespace Go.Proofs.Ytgkhpebhhkdgoaa
set_option linter.unusedVariables false
set_option linter.unusedSimpArgs false
open Go.RowKit Go.Sort
theorem and_top (x : Nat) (hx : x < 4294967296) : bits .and .u32 (x : Int) 4286578688 = ((x / 8388608 * 8388608 : Nat) : Int) := by
  have := u32_and_nat x 4286578688 hx (by decide)
  rw [show ((4286578688 : Nat) : Int) = 4286578688 by decide] at this
  rw [this]
  congr 1
  rw [show (4286578688 : Nat) = 511 * 2 ^ 23 by decide, show (8388608 : Nat) = 2 ^ 23 by decide]
  apply Nat.eq_of_testBit_eq
  intro k
  rw [Nat.testBit_and, Nat.testBit_mul_two_pow, Nat.testBit_mul_two_pow, Nat.testBit_div_two_pow]
  by_cases hk : 23 ≤ k
  · rw [decide_eq_true hk, Bool.true_and, Bool.true_and, show k - 23 + 23 = k by omega]
    by_cases h32 : k < 32
    · have : (511 : Nat).testBit (k - 23) = true := by
        rcases (show k = 23 ∨ k = 24 ∨ k = 25 ∨ k = 26 ∨ k = 27 ∨ k = 28 ∨ k = 29 ∨ k = 30 ∨ k = 31 by omega) with rfl | rfl | rfl | rfl | rfl | rfl | rfl | rfl | rfl <;> decide
      rw [this, Bool.and_true]
    · have : x.testBit k = false := Nat.testBit_lt_two_pow (Nat.lt_of_lt_of_le hx (show 2 ^ 32 ≤ 2 ^ k from Nat.pow_le_pow_right (by decide) (by omega)))
      rw [this]
      simp
  · rw [decide_eq_false hk]
    simp
theorem and_low16 (x : Nat) (hx : x < 4294967296) : bits .and .u32 (x : Int) 65535 = ((x % 65536 : Nat) : Int) := by
  have := u32_and_nat x 65535 hx (by decide)
  rw [show x &&& 65535 = x % 65536 from Nat.and_two_pow_sub_one_eq_mod x 16] at this
  exact this
def WatchP (x : Nat) (w : World) (e : Ending) (w' : World) : Prop := ∃ (a b : Int) (o : Bool), e = .returned (.tuple #[.int .i64 a, .int .i64 b, .bool o]) ∧ w = w' ∧ (o = true → 0 ≤ a ∧ a < 128)
set_option maxHeartbeats 1000000 in
theorem Watch_any (x : Nat) (hx : x < 4294967296) (w : World) : Calls Try.prog 74 #[.int .u32 (x : Int)] w (WatchP x w) := by
  have e1 := and_top x hx
  have e2 := and_low16 x hx
  have hq : (x : Int) / 65536 = ((x / 65536 : Nat) : Int) := by omega
  have e3 : wrap64 ((x / 65536 : Nat) : Int) = ((x / 65536 : Nat) : Int) := by unfold wrap64; omega
  have e4 : wrap64 ((x % 65536 : Nat) : Int) = ((x % 65536 : Nat) : Int) := by unfold wrap64; omega
  by_cases ht : x < 8388608
  · have z0 : x / 8388608 * 8388608 = 0 := by omega
    rw [z0] at e1
    have hlt : x / 65536 < 128 := by omega
    generalize x / 65536 = a at *
    generalize x % 65536 = b at *
    clear z0 ht hx
    by_cases ha : a = 0
    · have ea : ((a : Int) == 0) = true := by rw [ha]; rfl
      clear ha hlt
      go_enter Try.func74, Try.ntmps74
      go_wp2_with fail
      go_ret3
      exact ⟨_, _, false, rfl, rfl, fun h => by cases h⟩
    · have ea : ((a : Int) == 0) = false := by rw [beq_eq_false_iff_ne]; omega
      by_cases hb : b = 0
      · have eb : ((b : Int) == 0) = true := by rw [hb]; rfl
        clear ha hb hlt
        go_enter Try.func74, Try.ntmps74
        go_wp2_with fail
        go_ret3
        exact ⟨_, _, false, rfl, rfl, fun h => by cases h⟩
      · have eb : ((b : Int) == 0) = false := by rw [beq_eq_false_iff_ne]; omega
        have HL := Lib.hid hlt
        clear ha hb hlt
        go_enter Try.func74, Try.ntmps74
        go_wp2_with fail
        go_ret3
        exact ⟨_, _, true, rfl, rfl, fun _ => by have := HL.out; omega⟩
  · have ez : (((x / 8388608 * 8388608 : Nat) : Int) != 0) = true := by rw [bne_iff_ne]; omega
    generalize x / 8388608 * 8388608 = u at *
    generalize x / 65536 = a at *
    generalize x % 65536 = b at *
    clear ht hx
    go_enter Try.func74, Try.ntmps74
    go_wp2_with fail
    go_ret3
    exact ⟨_, _, false, rfl, rfl, fun h => by cases h⟩
set_option maxHeartbeats 1000000 in
theorem HNew_any (w : World) : Calls Try.prog 59 #[.int .i64 1] w fun e w' => e = .returned (.tuple #[.pointer (some ⟨w.heap.size, 0, none⟩), .int .i64 0]) ∧ w' = w.alloc (.cells #[.int .i64 1, .int .i64 0, .int .i64 0, .slice none 0 0] 123) := by
  go_enter Try.func59, Try.ntmps59
  go_wp2_with fail
  go_ret2
  exact ⟨rfl, rfl⟩
section
variable {w : World} {g B n c : Nat} {A : Option Addr} {ws : List Nat}
set_option maxHeartbeats 1000000 in
theorem Hthere_any {b c d : Value} (h : Blk w g 123 #[.int .i64 1, b, c, d]) : Calls Try.prog 72 #[.pointer (some ⟨g, 0, none⟩)] w fun e w' => e = .returned (.bool true) ∧ w = w' := by
  have F := h.cell 0
  go_enter Try.func72, Try.ntmps72
  go_wp2_with fail
  go_ret
  exact ⟨rfl, rfl⟩
def bools (bs : List Bool) : Array Value := (bs.map Value.bool).toArray
theorem bools_at {w : World} {g : Nat} {t : TypeId} {bs : List Bool} (h : Blk w g t (bools bs)) {i : Nat} (hi : i < bs.length) : w.cell? ⟨g, i, none⟩ = some (.bool (bs.getD i false)) := by
  rw [h.cell i]
  unfold bools
  simp [List.getD, List.getElem?_map, hi]
theorem bools_set {w : World} {g : Nat} {t : TypeId} {bs : List Bool} (h : Blk w g t (bools bs)) (i : Nat) (b : Bool) : Blk (w.setCell ⟨g, i, none⟩ (.bool b)) g t (bools (bs.set i b)) := by
  have := h.set_ i (.bool b)
  have e : (bools bs).setIfInBounds i (.bool b) = bools (bs.set i b) := by
    unfold bools
    simp [List.map_set]
  rw [← e]
  exact this
set_option maxRecDepth 100000 in
set_option maxHeartbeats 4000000 in
theorem wrong_any (h : RW w B A n c ws) (hwl : ∀ x ∈ ws, x < 4294967296) (hB : B ≤ w.heap.size) : Calls Try.prog 73 #[.slice A n c] w (SomeP .i64 w) := by
  by_cases h4 : 4 < n
  · clear h hwl
    go_enter Try.func73, Try.ntmps73
    go_wp2_with fail
    go_ret
    exact ⟨⟨_, rfl⟩, Below.refl _ _⟩
  · have hz : Try.zeroCells131 = bools (List.replicate 128 false) := by kernel_rfl
    have hst := run_storeCells_new (P := Try.prog) w 131 Try.zeroCells131 Try.zeroCells131 (by kernel_rfl) rfl (by kernel_rfl)
    have b0 := alloc_one w (.cells Try.zeroCells131 131)
    have KB0 := Blk.new w 131 Try.zeroCells131
    have KB : Blk (w.alloc (.cells Try.zeroCells131 131)) w.heap.size 131 (bools (List.replicate 128 false)) := by rw [← hz]; exact KB0
    have hl := h.len
    have hle := RV.le h
    have hcap := RV.cap h
    subst hl
    clear hz KB0
    go_enter Try.func73, Try.ntmps73
    go_wp2_with fail
    generalize w.alloc (.cells Try.zeroCells131 131) = wz at *
    clear hst
    go_loopw [4, 16] (fun v i wr => ∃ (k : Nat) (ee : Int) (bs : List Bool), k ≤ ws.length ∧ i = .int .i64 k ∧ v = .int .i64 ee ∧ bs.length = 128 ∧ Blk wr w.heap.size 131 (bools bs) ∧ Below w.heap.size w wr) (fun _ i _ => ws.length - (intOf i).toNat)
    case atStart => exact ⟨0, 0, _, by omega, rfl, rfl, List.length_replicate, KB, b0⟩
    case round =>
      clear KB b0
      obtain ⟨k, ee, bs, hk, rfl, rfl, hbs, KR, br⟩ := hrel
      obtain ⟨wq, hwq⟩ : ∃ w, w = wr := ⟨wr, rfl⟩
      subst hwq
      by_cases hlt : k < ws.length
      · obtain ⟨b, o, rfl, hb, hc⟩ := (h.below (br.mono hB)).at_ hlt
        have hx : ws.getD k 0 < 4294967296 := hwl _ (by rw [List.getD_eq_getElem?_getD, List.getElem?_eq_getElem hlt]; exact List.getElem_mem hlt)
        generalize ws.getD k 0 = x at *
        have e1 := and_top x hx
        have WA := Lib.hid (Watch_any x hx wq)
        have HBS := Lib.hid hbs
        have hrow := fun (i : Nat) (hi : i < bs.length) => bools_at KR hi
        have hset := fun (i : Nat) (b : Bool) => bools_set KR i b
        have hfr := fun i => KR.frozen i
        have HR := Lib.hid hrow; have HS := Lib.hid hset; have HF := Lib.hid hfr
        clear hrow hset hfr hbs
        by_cases hz : x / 8388608 * 8388608 = 0
        · rw [hz] at e1
          clear hz hx
          go_wp2_with fail
          refine (WA.out).mono ?_
          unfold WatchP
          rintro e w2 ⟨a, b2, ok, rfl, rfl, hok⟩
          cases ok
          · clear hok
            go_wp2_with fail
            go_roundw
            case rel => exact ⟨k + 1, ee, bs, by omega, by go_num, rfl, HBS.out, KR, br⟩
            case measure => simp [intOf] <;> omega
          · obtain ⟨ha1, ha2⟩ := hok rfl
            obtain ⟨a, rfl⟩ := Int.eq_ofNat_of_zero_le ha1
            have ha3 : a < 128 := by omega
            have hca := HR.out a (by rw [HBS.out]; exact ha3)
            have hfa := HF.out a
            have hsa := HS.out a true
            clear hok ha1
            generalize bs.getD a false = bb at *
            have dr := br.setCell (p := ⟨w.heap.size, a, none⟩) (Nat.le_refl _) (.bool true)
            cases bb
            · go_wp2_with fail
              go_roundw
              case rel => exact ⟨k + 1, ee, _, by omega, by go_num, rfl, by rw [List.length_set]; exact HBS.out, hsa, dr⟩
              case measure => simp [intOf] <;> omega
            · go_wp2_with fail
              go_roundw
              case rel => exact ⟨k + 1, 13, _, by omega, by go_num, rfl, by rw [List.length_set]; exact HBS.out, hsa, dr⟩
              case measure => simp [intOf] <;> omega
        · have ez : (((x / 8388608 * 8388608 : Nat) : Int) != 0) = true := by rw [bne_iff_ne]; omega
          clear hz hx
          generalize x / 8388608 * 8388608 = u at *
          go_wp2_with fail
          go_ret
          exact ⟨⟨_, rfl⟩, br⟩
      · obtain rfl : k = ws.length := by omega
        go_wp2_with fail
        go_ret
        exact ⟨⟨_, rfl⟩, br⟩
theorem etpe : ET Try.prog 121 127 5 40 (.agg #[.int .i64 0, .int .i64 0, .bool false, .int .i64 0, .int .i64 0]) := ⟨Try.underlying121, info_parts (by kernel_rfl), rfl, by decide⟩
/-- A peer's cells. -/
def PeC (_ : Unit) (cs : List Value) : Prop := ∃ a b : Int, cs = [.int .i64 a, .int .i64 b, .bool false, .int .i64 0, .int .i64 0]
set_option maxRecDepth 100000 in
set_option maxHeartbeats 4000000 in
theorem HPeers_any (hg : Blk w g 123 #[.int .i64 1, .int .i64 0, .int .i64 0, .slice none 0 0]) (hk : ∀ wr : World, Mv (fun q => q = g) w wr → RW wr wr.heap.size A n c ws) (hwl : ∀ x ∈ ws, x < 4294967296) (hn : n ≤ 4) :
    Calls Try.prog 60 #[.pointer (some ⟨g, 0, none⟩), .slice A n c] w fun e w' => (∃ z : Int, e = .returned (.int .i64 z)) ∧ Mv (fun q => q = g) w w' := by
  have TH := Lib.hid (Hthere_any hg)
  have h := hk w (Mv.refl _ _)
  have HK := Lib.hid hk
  have WR := Lib.hid (wrong_any h hwl (Nat.le_refl _))
  have hgl := hg.lt
  have hl := h.len
  have hle := RV.le h
  have hcap := RV.cap h
  subst hl
  clear hk h
  go_enter Try.func60, Try.ntmps60
  go_wp2_with fail
  refine (TH.out).mono ?_
  rintro e _ ⟨rfl, rfl⟩
  go_wp2_with fail
  refine (WR.out).mono ?_
  rintro e w1 ⟨⟨z, rfl⟩, b1⟩
  have m1 : Mv (fun q => q = g) w w1 := Mv.of_new b1 _
  by_cases hz : z = 0
  · subst hz
    have K1 := hg.later b1
    have K1s := K1.set_ 3 (.slice none 0 0)
    have F1 := K1.four
    have m2 := m1.trans (Mv.setCell w1 ⟨g, 3, none⟩ (.slice none 0 0)) fun _ _ e => e
    clear TH WR hg
    go_wp2_with fail
    clear F1
    go_loopw [24] (fun i wr => ∃ (k : Nat) (A1 : Option Addr) (n1 c1 : Nat) (l : List Unit), k ≤ ws.length ∧ i = .int .i64 k ∧ n1 ≤ k ∧ Blk wr g 123 #[.int .i64 1, .int .i64 0, .int .i64 0, .slice A1 n1 c1] ∧ OS PeC wr w.heap.size 127 5 A1 n1 c1 l ∧ Mv (fun q => q = g) w wr) (fun i _ => ws.length - (intOf i).toNat)
    case atStart => exact ⟨0, none, 0, 0, [], by omega, rfl, by omega, K1s, OS.none_ _ _ _ _, m2⟩
    case round =>
      clear m1 m2 K1 K1s b1
      obtain ⟨k, A1, n1, c1, l, hk, rfl, hn1, KR, os, mr⟩ := hrel
      obtain ⟨wq, hwq⟩ : ∃ w, w = wr := ⟨wr, rfl⟩
      subst hwq
      by_cases hlt : k < ws.length
      · obtain ⟨b, o, rfl, hb, hc⟩ := RW.at_ (HK.out wq mr) hlt
        have hx : ws.getD k 0 < 4294967296 := hwl _ (by rw [List.getD_eq_getElem?_getD, List.getElem?_eq_getElem hlt]; exact List.getElem_mem hlt)
        generalize ws.getD k 0 = x at *
        have WA := Lib.hid (Watch_any x hx wq)
        clear hx
        go_wp2_with fail
        refine (WA.out).mono ?_
        unfold WatchP
        rintro e w2 ⟨a, b2, ok, rfl, rfl, _⟩
        cases ok
        · go_wp2_with fail
          go_roundw
          case rel => exact ⟨k + 1, A1, n1, c1, l, by omega, by go_num, by omega, KR, os, mr⟩
          case measure => simp [intOf] <;> omega
        · have FR := KR.four
          have hsz := mr.size
          go_wp2_with (at_builtin; refine wpList_apps etpe (fun _ => PeC) rfl (.tmp 39) (.tmp 43) rfl rfl rfl rfl w.heap.size os () ⟨a, b2, rfl⟩ rfl (fun u hu => by simp only [List.mem_cons, List.not_mem_nil, or_false] at hu; rcases hu with rfl | rfl | rfl | rfl | rfl <;> rfl) (by omega) (by omega) hsz (fun w1 A1 n1 c1 xs h g f cs hf => hf) ?_; intro A3 c3 w3 os3 b3 g3 _; have K3 := KR.below b3 hgl; have F3 := K3.four; clear FR)
          have K4 := K3.set_ 3 (.slice A3 (n1 + 1) c3)
          have m4 : Mv (fun q => q = g) w (w3.setCell ⟨g, 3, none⟩ (.slice A3 (n1 + 1) c3)) := (mr.trans (Mv.of_below b3) fun q hq e => by have e' : w.heap.size ≤ q := e; omega).trans (Mv.setCell w3 ⟨g, 3, none⟩ _) fun _ _ e => e
          have os4 : OS PeC (w3.setCell ⟨g, 3, none⟩ (.slice A3 (n1 + 1) c3)) w.heap.size 127 5 A3 (n1 + 1) c3 (l ++ [()]) := by
            obtain ⟨zs, z1, z2⟩ := os3
            exact ⟨zs, z1.far hgl 3 _, z2⟩
          go_wp2_with fail
          go_roundw
          case rel => exact ⟨k + 1, A3, n1 + 1, c3, _, by omega, by go_num, by omega, K4, os4, m4⟩
          case measure => simp [intOf] <;> omega
      · obtain rfl : k = ws.length := by omega
        go_wp2_with fail
        go_ret
        exact ⟨⟨_, rfl⟩, mr⟩
  · have ez : (z == 0) = false := by simpa using hz
    have ez2 : (z != 0) = true := by simpa using hz
    clear hz
    go_wp2_with fail
    go_ret
    exact ⟨⟨_, rfl⟩, m1⟩
end
section
variable {F G : Nat → Prop} {w : World} {gd gv lc vc gx gv' lc' vc' : Nat} {la la' : Addr} {vA vA' : Option Addr} {xs vs xs' vs' : List Value} {D X : Dc.Dic} {A : Option Addr} {n c : Nat}
set_option maxRecDepth 100000 in
set_option maxHeartbeats 2000000 in
theorem peers_any (i j : Int) (h : DRt 73 w G gx gv' (some la') lc' vA' vc' xs' vs' X) (hd : ∀ e ∈ X.l, e.dflt.length ≤ 1000000) (hv : ∀ v ∈ X.v, v.length ≤ 1000000) :
    Calls Try.prog 40 #[.agg (WrV gd gx i j A n c)] w (SomeP .u32 w) := by
  unfold WrV
  have b0 := alloc_one w (.cells #[.pointer (some ⟨gd, 0, none⟩), .pointer (some ⟨gx, 0, none⟩), .int .i64 i, .int .i64 j, .slice A n c] 65)
  have K0 := Blk.new w 65 #[.pointer (some ⟨gd, 0, none⟩), .pointer (some ⟨gx, 0, none⟩), .int .i64 i, .int .i64 j, .slice A n c]
  have hpw : ∀ x ∈ Pm.peersS X, x < 4294967296 := fun x hx => Pm.wordsK_lt _ _ _ x (List.mem_of_mem_take hx)
  have hpl : (Pm.peersS X).length ≤ 4 := by unfold Pm.peersS; rw [List.length_take]; omega
  have PE := fun (w1 : World) (hb : Below w.heap.size w w1) => Peers_any (h.below hb) hd hv
  clear h
  generalize Pm.peersS X = ps at *
  replace PE := Lib.hid PE
  have HPW := Lib.hid hpw
  clear hpw
  go_enter Try.func40, Try.ntmps40
  go_wp2_with fail
  have hz0 := b0.size
  generalize w.alloc (.cells #[.pointer (some ⟨gd, 0, none⟩), .pointer (some ⟨gx, 0, none⟩), .int .i64 i, .int .i64 j, .slice A n c] 65) = w0 at *
  refine (HNew_any w0).mono ?_
  rintro e w1 ⟨rfl, hw1⟩
  have b1 := alloc_one w0 (.cells #[.int .i64 1, .int .i64 0, .int .i64 0, .slice none 0 0] 123)
  have KH := Blk.new w0 123 #[.int .i64 1, .int .i64 0, .int .i64 0, .slice none 0 0]
  rw [← hw1] at b1 KH
  clear hw1
  have d1 := below_step b0 b1 (Nat.le_refl _)
  have F1 := (K0.later b1).cin
  have hgl := KH.lt
  clear K0
  go_wp2_with fail
  refine (PE.out _ d1).mono ?_
  rintro e w2 ⟨A2, c2, rfl, hk2, b2⟩
  have KH2 := KH.later b2
  have d2 := below_step d1 b2 (Nat.le_refl _)
  have HP := Lib.hid (HPeers_any KH2 (fun wr hm => hk2 wr _ hm fun q e => by subst e; exact hgl) HPW.out hpl)
  clear hk2 F1 KH
  go_wp2_with fail
  refine (HP.out).mono ?_
  rintro e w3 ⟨⟨z, rfl⟩, m3⟩
  have d3 := d2.trans (m3.below d2.size fun q e => by subst e; exact hz0)
  by_cases hz : z = 0
  · have ez : (z != 0) = false := by simpa using hz
    clear hz
    go_wp2_with fail
    go_ret
    exact ⟨⟨_, rfl⟩, d3⟩
  · have ez : (z != 0) = true := by simpa using hz
    clear hz
    go_wp2_with fail
    go_ret
    exact ⟨⟨_, rfl⟩, d3⟩
end
end Go.Proofs.Ytgkhpebhhkdgoaa
/-
  Walk: Copy of layer 15.
  Conditions: none.
-/
namespace Go.Proofs.Ytgkhpebhhkdgoaa
set_option linter.unusedVariables false
set_option linter.unusedSimpArgs false
open Go.RowKit
/-- What Copy hands back: another one that is alike. -/
def CopyP (D : Dc.Dic) (w : World) (e : Ending) (w' : World) : Prop := Below w.heap.size w w' ∧ ∃ (g gv lc vc : Nat) (la : Addr) (vA : Option Addr) (xs vs : List Value), e = .returned (.pointer (some ⟨g, 0, none⟩)) ∧ DRt 73 w' (fun q => w.heap.size ≤ q) g gv (some la) lc vA vc xs vs D
theorem take_one {α : Type} (l : List α) {k : Nat} (d : α) (h : k < l.length) : l.take (k + 1) = l.take k ++ [l.getD k d] := by
  rw [List.take_succ_eq_append_getElem h]
  simp [List.getD, h]
theorem getD_small {L : List (List UInt8)} (h : ∀ v ∈ L, v.length ≤ 1000000) (k : Nat) : (L.getD k []).length ≤ 1000000 := by
  rw [List.getD_eq_getElem?_getD]
  cases hi : L[k]? with
  | none => simp
  | some x => exact h _ (List.mem_of_getElem? hi)
set_option maxRecDepth 100000 in
set_option maxHeartbeats 4000000 in
theorem dCopy_any {F : Nat → Prop} {w : World} {g gv lc vc : Nat} {la : Addr} {vA : Option Addr} {xs vs : List Value} {D : Dc.Dic} (h : DRt 73 w F g gv (some la) lc vA vc xs vs D) (hd : ∀ e ∈ D.l, e.dflt.length ≤ 1000000) (hv : ∀ v ∈ D.v, v.length ≤ 1000000) : Calls Try.prog 21 #[.pointer (some ⟨g, 0, none⟩)] w (CopyP D w) := by
  obtain ⟨t0, t1⟩ := h.two
  obtain ⟨hlc1, hlc2⟩ := h.lcap
  have hcap : D.l.length ≤ vc ∧ vc ≤ 9223372036854775807 := ⟨h.own.rv.le, h.own.rv.cap⟩
  obtain ⟨hcap1, hcap2⟩ := hcap
  have hgl := h.blk.lt
  have h96 := h.few
  have hord := h.ord
  have hright := h.right
  have hdl := h.len
  have TH := Lib.hid (dthere_any h)
  have b00 := alloc_two w (.cells #[] 46) (.cells #[.slice (some ⟨w.heap.size, 0, none⟩) 0 0, .slice none 0 0] 73)
  have N0 : NwM 73 ((w.alloc (.cells #[] 46)).alloc (.cells #[.slice (some ⟨w.heap.size, 0, none⟩) 0 0, .slice none 0 0] 73)) w.heap.size (w.heap.size + 1) (some ⟨w.heap.size, 0, none⟩) 0 0 none 0 0 [] [] :=
    ⟨by omega, by have := Blk.new (w.alloc (.cells #[] 46)) 73 #[.slice (some ⟨w.heap.size, 0, none⟩) 0 0, .slice none 0 0]; simpa using this, ⟨[], (OV.new (base := w.heap.size) (e := 46) (size := 11) w [] 0 rfl (by omega) (Nat.le_refl _)).alloc _, Rows.nil⟩, OS.none_ _ _ _ _⟩
  have t0' := (b00.cell (p := ⟨g, 0, none⟩) hgl).trans t0
  have HDL := Lib.hid hdl
  clear hdl
  go_enter Try.func21, Try.ntmps21
  go_wp2_with fail
  refine (TH.out).mono ?_
  rintro e w2 ⟨rfl, rfl⟩
  go_wp2_with fail
  clear t0'
  go_loopw [17] (fun v wr => ∃ (k : Nat) (la : Addr) (lc : Nat) (vA : Option Addr) (vc : Nat), k ≤ D.l.length ∧ v = .int .i64 k ∧ NwM 73 wr w.heap.size (w.heap.size + 1) (some la) k lc vA k vc (D.l.take k) (D.v.take k) ∧ Below w.heap.size w wr) (fun v _ => D.l.length - (intOf v).toNat)
  case atStart => exact ⟨0, _, _, _, _, by omega, rfl, N0, b00⟩
  case round =>
    obtain ⟨k, la', lc', vA', vc', hk, rfl, N, bb⟩ := hrel
    clear N0
    by_cases hlt : k < D.l.length
    · obtain ⟨b, o, A1, n1, c1, hA, hbw, hr0, hc⟩ := h.entry hlt
      obtain ⟨A2, n2, c2, hA2, _, hgv, hr2, hcell, _⟩ := h.value hlt
      injection hA with hA
      subst hA hA2
      have hmem : D.l.getD k Dc.en0 ∈ D.l := by
        rw [List.getD_eq_getElem?_getD, List.getElem?_eq_getElem hlt]
        exact List.getElem_mem hlt
      have hdf0 := hd _ hmem
      have hln := getD_small hv k
      have HTK : Hid (D.l.take (k + 1) = D.l.take k ++ [D.l.getD k Dc.en0] ∧ D.v.take (k + 1) = D.v.take k ++ [D.v.getD k []]) := Lib.hid ⟨take_one _ _ hlt, take_one _ _ (by rw [HDL.out]; exact hlt)⟩
      have hdl1 := hr0.len
      have hdl2 := hr2.len
      generalize D.v.getD k [] = dat at *
      generalize D.l.getD k Dc.en0 = e0 at *
      clear hmem
      obtain ⟨ix, sb, nm, ty, ac, mp, st, mx, lo, hi, df⟩ := e0
      dsimp only at hr0 hdf0 hdl1 HTK
      subst hdl2
      have hdf : n1 < 140737488355328 := by omega
      have hg7 : w.heap.size + 1 < wr.heap.size := N.blk.lt
      obtain ⟨Gq, hGq⟩ : ∃ Gq : Nat → Prop, ∀ q, Gq q ↔ (w.heap.size ≤ q ∧ q ≠ w.heap.size + 1 ∧ q ≠ wr.heap.size) := ⟨_, fun q => Iff.rfl⟩
      have hGg : ¬ Gq (w.heap.size + 1) := fun h => ((hGq _).1 h).2.1 rfl
      have hG7 : ¬ Gq wr.heap.size := fun h => ((hGq _).1 h).2.2 rfl
      have hGl : ∀ q, q < w.heap.size → ¬ Gq q := fun q hq h => by have := ((hGq _).1 h).1; omega
      have hOwn : ∀ b, some b = (Value.slice (some la') k lc').ownBlock → Gq b := fun b hb => by
        obtain ⟨zs, z1, _⟩ := N.row
        have := z1.lt b hb.symm
        exact (hGq b).2 ⟨this.1, fun e => own_blk_ne z1 N.blk (by decide) (by rw [← hb, e]), by omega⟩
      have hOwnV : ∀ b, some b = (Value.slice vA' k vc').ownBlock → Gq b := fun b hb => by
        obtain ⟨zs, z1, _⟩ := N.vrow
        have := z1.lt b hb.symm
        exact (hGq b).2 ⟨this.1, fun e => own_blk_ne z1 N.blk (by decide) (by rw [← hb, e]), by omega⟩
      clear hGq
      have a0 := (bb.cell (p := ⟨b, o + k * 11 + 0, none⟩) hbw).trans (hc 0 _ rfl)
      have a1 := (bb.cell (p := ⟨b, o + k * 11 + 1, none⟩) hbw).trans (hc 1 _ rfl)
      have a2 := (bb.cell (p := ⟨b, o + k * 11 + 2, none⟩) hbw).trans (hc 2 _ rfl)
      have a3 := (bb.cell (p := ⟨b, o + k * 11 + 3, none⟩) hbw).trans (hc 3 _ rfl)
      have a4 := (bb.cell (p := ⟨b, o + k * 11 + 4, none⟩) hbw).trans (hc 4 _ rfl)
      have a5 := (bb.cell (p := ⟨b, o + k * 11 + 5, none⟩) hbw).trans (hc 5 _ rfl)
      have a6 := (bb.cell (p := ⟨b, o + k * 11 + 6, none⟩) hbw).trans (hc 6 _ rfl)
      have a7 := (bb.cell (p := ⟨b, o + k * 11 + 7, none⟩) hbw).trans (hc 7 _ rfl)
      have a8 := (bb.cell (p := ⟨b, o + k * 11 + 8, none⟩) hbw).trans (hc 8 _ rfl)
      have a9 := (bb.cell (p := ⟨b, o + k * 11 + 9, none⟩) hbw).trans (hc 9 _ rfl)
      have a10 := (bb.cell (p := ⟨b, o + k * 11 + 10, none⟩) hbw).trans (hc 10 _ rfl)
      simp only [Nat.add_zero] at a0
      have b7 := bb.alloc bb.size (.cells #[.int .i64 ix, .int .i64 sb, .string (T nm), .int .i64 ty, .int .i64 ac, .bool mp, .bool st, .int .i64 mx, .int .i64 lo, .int .i64 hi, .slice A1 n1 c1] 46)
      have K7 := Blk.new wr 46 #[.int .i64 ix, .int .i64 sb, .string (T nm), .int .i64 ty, .int .i64 ac, .bool mp, .bool st, .int .i64 mx, .int .i64 lo, .int .i64 hi, .slice A1 n1 c1]
      replace N := N.below (alloc_one wr (.cells #[.int .i64 ix, .int .i64 sb, .string (T nm), .int .i64 ty, .int .i64 ac, .bool mp, .bool st, .int .i64 mx, .int .i64 lo, .int .i64 hi, .slice A1 n1 c1] 46))
      have hz7 : wr.heap.size < (wr.alloc (.cells #[.int .i64 ix, .int .i64 sb, .string (T nm), .int .i64 ty, .int .i64 ac, .bool mp, .bool st, .int .i64 mx, .int .i64 lo, .int .i64 hi, .slice A1 n1 c1] 46)).heap.size := by simp
      clear hc
      have i0 : (0 : Int) ≤ (k : Int) := by omega
      have i1 : (k : Int) < (D.l.length : Int) := by omega
      have t0' := (b7.cell (p := ⟨g, 0, none⟩) hgl).trans t0
      have t1' := (b7.cell (p := ⟨g, 1, none⟩) hgl).trans t1
      have v1' := (b7.cell (p := ⟨gv, k, none⟩) hgv).trans hcell
      go_wp2_with fail
      generalize wr.alloc (.cells #[.int .i64 ix, .int .i64 sb, .string (T nm), .int .i64 ty, .int .i64 ac, .bool mp, .bool st, .int .i64 mx, .int .i64 lo, .int .i64 hi, .slice A1 n1 c1] 46) = wc at *
      clear a0 a1 a2 a3 a4 a5 a6 a7 a8 a9 a10
      have HELD := held_any ⟨ix, sb, nm, ty, ac, mp, st, mx, lo, hi, df⟩ wc.drew (hr0.below (b7.drew)) hdf (b7.drew.size)
      unfold enV at HELD
      dsimp only at HELD
      replace HELD := Lib.hid HELD
      have z0 := cell_mv (G := Gq) (N.blk.cell 0) hGg
      have k0 := cell_mv (G := Gq) (K7.cell 0) hG7
      have k1 := cell_mv (G := Gq) (K7.cell 1) hG7
      have k2 := cell_mv (G := Gq) (K7.cell 2) hG7
      have k3 := cell_mv (G := Gq) (K7.cell 3) hG7
      have k4 := cell_mv (G := Gq) (K7.cell 4) hG7
      have k5 := cell_mv (G := Gq) (K7.cell 5) hG7
      have k6 := cell_mv (G := Gq) (K7.cell 6) hG7
      have k7 := cell_mv (G := Gq) (K7.cell 7) hG7
      have k8 := cell_mv (G := Gq) (K7.cell 8) hG7
      have k9 := cell_mv (G := Gq) (K7.cell 9) hG7
      have k10 := cell_mv (G := Gq) (K7.cell 10) hG7
      refine region_mv 11 Gq (by kernel_rfl) ?_
      refine phase_mv (by kernel_rfl) 6 (Mv.refl _ _).drew [0, 1, 5, 2, 3, 4] rfl (by kernel_rfl) ?_
      simp only [picks, nth]
      repeat (go_big_quiet_step (fail))
      refine wpQuiet_nil ?_
      refine phase_opL 6 5 rfl (by kernel_rfl) (by decide) ?_
      simp only [nth]
      go_wp2_with fail
      refine (HELD.out).mono ?_
      rintro e w3 ⟨A3, c3, rfl, o3, b3⟩
      have b3' : Below wc.heap.size wc w3 := (below_drew wc).trans b3
      go_wp2_with fail
      refine behind_mv (Mv.of_new b3' _) ?_
      refine phase_opL 7 4 rfl (by kernel_rfl) (by decide) ?_
      simp only [nth]
      go_wp2_with fail
      have b4 := alloc_one w3 (.cells #[.int .i64 ix, .int .i64 sb, .string (T nm), .int .i64 ty, .int .i64 ac, .bool mp, .bool st, .int .i64 mx, .int .i64 lo, .int .i64 hi, .slice A3 n1 c3] 46)
      have D4 := below_step b3' b4 (Nat.le_refl _)
      refine behind_mv (Mv.of_new D4 _) ?_
      have N4 := N.below D4
      have hnew := RV.new w3 46 (size := 11) (cs := enL ⟨ix, sb, nm, ty, ac, mp, st, mx, lo, hi, df⟩ A3 n1 c3) rfl
      have hf4 : EnB (w3.alloc (.cells #[.int .i64 ix, .int .i64 sb, .string (T nm), .int .i64 ty, .int .i64 ac, .bool mp, .bool st, .int .i64 mx, .int .i64 lo, .int .i64 hi, .slice A3 n1 c3] 46)) w.heap.size ⟨ix, sb, nm, ty, ac, mp, st, mx, lo, hi, df⟩ (enL ⟨ix, sb, nm, ty, ac, mp, st, mx, lo, hi, df⟩ A3 n1 c3) := ⟨A3, n1, c3, rfl, (o3.more b7.drew.size).below b4⟩
      have D40 := below_step b7 D4 (Nat.le_refl _)
      refine phase_opL 8 3 rfl (by kernel_rfl) (by decide) ?_
      simp only [nth]
      go_wp2_with (at_builtin; refine wpList_apps2 eten (fun w1 => EnB w1 w.heap.size) rfl (.tmp 26) (.tmp 29) rfl rfl rfl w.heap.size N4.row ⟨ix, sb, nm, ty, ac, mp, st, mx, lo, hi, df⟩ hnew hf4 (en_oneCell _ _ _ _) (by omega) (by omega) D40.size (fun w1 A1 n1 c1 xs hv hg f cs hf => hf.beside hv (by decide) hg) ?_; intro A5 c5 w5 o5 b5 g5 _)
      have M5 : Mv Gq wc w5 := (Mv.of_new D4 _).trans (Mv.of_grown g5) fun b hb e => hOwn b e
      refine behind_mv M5 ?_
      refine phase_opL 9 2 rfl (by kernel_rfl) (by decide) ?_
      simp only [nth]
      go_wp2_with fail
      refine behind_mv M5 ?_
      refine phase_opL 10 1 rfl (by kernel_rfl) (by decide) ?_
      simp only [nth]
      go_wp2_with fail
      refine behind_mv M5 ?_
      have F5 := (N.blk.mv M5 hGg).two
      refine phase_last 0 rfl (by kernel_rfl) (by decide) (by kernel_rfl) ?_
      simp only [nth]
      go_wp2_with fail
      refine behind_last ?_
      have N6 := N4.addl (by decide) (by decide) (by decide) o5 g5
      have d6 : Below w.heap.size w (w5.setCell ⟨w.heap.size + 1, 0, none⟩ (.slice A5 (k + 1) c5)) := (D40.trans b5).setCell (p := ⟨w.heap.size + 1, 0, none⟩) (by dsimp only; omega) _
      have hA5 : ∃ la5 : Addr, A5 = some la5 := by
        obtain ⟨zs, z1, _⟩ := o5
        obtain ⟨q, e, _, _⟩ := z1.head (by omega)
        exact ⟨_, e⟩
      obtain ⟨la5, rfl⟩ := hA5
      generalize hwd : w5.setCell ⟨w.heap.size + 1, 0, none⟩ (.slice (some la5) (k + 1) c5) = wd at *
      clear hwd N4 N HELD z0 k0 k1 k2 k3 k4 k5 k6 k7 k8 k9 k10 F5 o5 g5 M5 D4 D40 hf4 hnew b4 b3 b3' o3 K7 hOwn t0' t1' v1'
      -- its value
      have OWN := Lib.hid (down_any wd.drew (hr2.below d6.drew) (by omega) d6.drew.size)
      have z1 := cell_mv (G := Gq) (N6.blk.cell 1) hGg
      have t1' := cell_mv (G := Gq) ((d6.cell (p := ⟨g, 1, none⟩) hgl).trans t1) (hGl g hgl)
      have v1' := cell_mv (G := Gq) ((d6.cell (p := ⟨gv, k, none⟩) hgv).trans hcell) (hGl gv hgv)
      go_wp2_with fail
      refine region_mv 17 Gq (by kernel_rfl) ?_
      refine phase_mv (by kernel_rfl) 6 (Mv.refl _ _).drew [0, 1, 5, 9, 2, 6, 3, 7, 4, 8, 10, 11] rfl (by kernel_rfl) ?_
      simp only [picks, nth]
      repeat (go_big_quiet_step (fail))
      refine wpQuiet_nil ?_
      refine phase_opL 12 5 rfl (by kernel_rfl) (by decide) ?_
      simp only [nth]
      go_wp2_with fail
      refine (OWN.out).mono ?_
      rintro e w3 ⟨A3, c3, rfl, o3, b3⟩
      have b3' : Below wd.heap.size wd w3 := (below_drew wd).trans b3
      go_wp2_with fail
      refine behind_mv (Mv.of_new b3' _) ?_
      refine phase_opL 13 4 rfl (by kernel_rfl) (by decide) ?_
      simp only [nth]
      go_wp2_with fail
      have b4 := alloc_one w3 (.cells #[.slice A3 dat.length c3] 22)
      have D4 := below_step b3' b4 (Nat.le_refl _)
      refine behind_mv (Mv.of_new D4 _) ?_
      have N4 := N6.below D4
      have hnew := RV.new w3 22 (size := 1) (cs := [.slice A3 dat.length c3]) rfl
      have hf4 : ByB (w3.alloc (.cells #[.slice A3 dat.length c3] 22)) w.heap.size dat [.slice A3 dat.length c3] := ⟨A3, dat.length, c3, rfl, (o3.more d6.drew.size).below b4⟩
      have D40 := below_step d6 D4 (Nat.le_refl _)
      refine phase_opL 14 3 rfl (by kernel_rfl) (by decide) ?_
      simp only [nth]
      go_wp2_with (at_builtin; refine wpList_apps2 etbs (fun w1 => ByB w1 w.heap.size) rfl (.tmp 37) (.tmp 46) rfl rfl rfl w.heap.size N4.vrow dat hnew hf4 (fun u hu => by simp only [List.mem_cons, List.not_mem_nil, or_false] at hu; rw [hu]; rfl) (by omega) (by omega) D40.size (fun w1 A1 n1 c1 xs hv hg f cs hf => hf.beside hv (by decide) hg) ?_; intro A6 c6 w6 o6 b6 g6 _)
      have M5 : Mv Gq wd w6 := (Mv.of_new D4 _).trans (Mv.of_grown g6) fun b hb e => hOwnV b e
      refine behind_mv M5 ?_
      refine phase_opL 15 2 rfl (by kernel_rfl) (by decide) ?_
      simp only [nth]
      go_wp2_with fail
      refine behind_mv M5 ?_
      refine phase_opL 16 1 rfl (by kernel_rfl) (by decide) ?_
      simp only [nth]
      go_wp2_with fail
      refine behind_mv M5 ?_
      have F5 := (N6.blk.mv M5 hGg).two
      refine phase_last 0 rfl (by kernel_rfl) (by decide) (by kernel_rfl) ?_
      simp only [nth]
      go_wp2_with fail
      refine behind_last ?_
      have N7 := N4.addv (by decide) (by decide) (by decide) o6 g6
      have d7 : Below w.heap.size w (w6.setCell ⟨w.heap.size + 1, 1, none⟩ (.slice A6 (k + 1) c6)) := (D40.trans b6).setCell (p := ⟨w.heap.size + 1, 1, none⟩) (by dsimp only; omega) _
      clear z1 t1' v1' F5 N4 N6 OWN
      go_wp2_with fail
      go_roundw
      case rel => exact ⟨k + 1, la5, c5, A6, c6, by omega, by go_num, by rw [HTK.out.2, HTK.out.1]; exact N7, d7⟩
      case measure => simp [intOf] <;> omega
    · obtain rfl : k = D.l.length := by omega
      rw [List.take_length, show D.v.take D.l.length = D.v by rw [← HDL.out, List.take_length]] at N
      obtain ⟨gv', zs, ys, hD⟩ := N.made (by decide) (by decide) (by decide) rfl HDL.out hord h96 hright
      clear N
      go_wp2_with fail
      go_ret
      exact ⟨bb, _, gv', lc', vc', la', vA', zs, ys, rfl, hD⟩
end Go.Proofs.Ytgkhpebhhkdgoaa
/-
  Walks: rules, Guard of layer 33.
  Conditions: none.
-/
namespace Go.Proofs.Ytgkhpebhhkdgoaa
set_option linter.unusedVariables false
set_option linter.unusedSimpArgs false
open Go.RowKit Go.Sort
set_option maxHeartbeats 1000000 in
theorem signed_made (want : Int) (w : World) : Calls Try.prog 39 #[.int .i64 want] w fun e w' => e = .returned (.func (.func 58) #[] #[.pointer (some ⟨w.heap.size, 0, none⟩)]) ∧ w' = w.alloc (.cells #[.int .i64 want] 3) := by
  go_enter Try.func39, Try.ntmps39
  go_wp2_with fail
  go_ret
  exact ⟨rfl, rfl⟩
set_option maxHeartbeats 1000000 in
theorem mapped_made (ahead : Int) (k : Nat) (w : World) : Calls Try.prog 43 #[.int .i64 ahead, .func (.func k) #[] #[]] w fun e w' => e = .returned (.func (.func 63) #[] #[.pointer (some ⟨w.heap.size, 0, none⟩), .pointer (some ⟨w.heap.size + 1, 0, none⟩)]) ∧ w' = (w.alloc (.cells #[.int .i64 ahead] 3)).alloc (.cells #[.func (.func k) #[] #[]] 68) := by
  go_enter Try.func43, Try.ntmps43
  go_wp2_with fail
  go_ret
  exact ⟨rfl, rfl⟩
def ruleCells (b : Nat) : Array Value := #[.int .i64 4099, .int .i64 4099, .func (.func 37) #[] #[], .int .i64 4101, .int .i64 4101, .func (.func 38) #[] #[], .int .i64 4121, .int .i64 4121, .func (.func 38) #[] #[], .int .i64 4112, .int .i64 4112, .func (.func 58) #[] #[.pointer (some ⟨b, 0, none⟩)], .int .i64 4113, .int .i64 4113, .func (.func 58) #[] #[.pointer (some ⟨b + 1, 0, none⟩)], .int .i64 4118, .int .i64 4118, .func (.func 40) #[] #[], .int .i64 5120, .int .i64 5123, .func (.func 41) #[] #[], .int .i64 6144, .int .i64 6147, .func (.func 42) #[] #[], .int .i64 5632, .int .i64 5635, .func (.func 63) #[] #[.pointer (some ⟨b + 1 + 1, 0, none⟩), .pointer (some ⟨b + 1 + 1 + 1, 0, none⟩)], .int .i64 6656, .int .i64 6659, .func (.func 63) #[] #[.pointer (some ⟨b + 1 + 1 + 1 + 1, 0, none⟩), .pointer (some ⟨b + 1 + 1 + 1 + 1 + 1, 0, none⟩)]]
/-- The table of rules. -/
structure RulesM (w : World) (b : Nat) : Prop where
  lt : b + 1 + 1 + 1 + 1 + 1 + 1 < w.heap.size
  blk : Blk w (b + 1 + 1 + 1 + 1 + 1 + 1) 70 (ruleCells b)
  b0 : Blk w b 3 #[.int .i64 1702257011]
  b1 : Blk w (b + 1) 3 #[.int .i64 1684107116]
  b2 : Blk w (b + 1 + 1) 3 #[.int .i64 512]
  b3 : Blk w (b + 1 + 1 + 1) 68 #[.func (.func 41) #[] #[]]
  b4 : Blk w (b + 1 + 1 + 1 + 1) 3 #[.int .i64 512]
  b5 : Blk w (b + 1 + 1 + 1 + 1 + 1) 68 #[.func (.func 42) #[] #[]]
theorem RulesM.below {w w' : World} {b : Nat} (h : RulesM w b) (hb : Below w.heap.size w w') : RulesM w' b := ⟨Nat.lt_of_lt_of_le h.lt hb.size, h.blk.later hb, h.b0.later hb, h.b1.later hb, h.b2.later hb, h.b3.later hb, h.b4.later hb, h.b5.later hb⟩
set_option maxRecDepth 100000 in
set_option maxHeartbeats 4000000 in
theorem rules_any (w : World) : Calls Try.prog 23 #[] w fun e w' => e = .returned (.slice (some ⟨w.heap.size + 1 + 1 + 1 + 1 + 1 + 1, 0, none⟩) 10 10) ∧ Below w.heap.size w w' ∧ RulesM w' w.heap.size := by
  have a0 := alloc_one w (.cells #[.int .i64 1702257011] 3)
  have k0 := Blk.new w 3 #[.int .i64 1702257011]
  have s0 : (w.alloc (.cells #[.int .i64 1702257011] 3)).heap.size = w.heap.size + 1 := by simp
  generalize e0 : w.alloc (.cells #[.int .i64 1702257011] 3) = u0 at a0 k0 s0
  have a1 := alloc_one u0 (.cells #[.int .i64 1684107116] 3)
  have k1 := Blk.new u0 3 #[.int .i64 1684107116]
  have s1 : (u0.alloc (.cells #[.int .i64 1684107116] 3)).heap.size = u0.heap.size + 1 := by simp
  generalize e1 : u0.alloc (.cells #[.int .i64 1684107116] 3) = u1 at a1 k1 s1
  have a2 := alloc_one u1 (.cells #[.int .i64 512] 3)
  have k2 := Blk.new u1 3 #[.int .i64 512]
  have s2 : (u1.alloc (.cells #[.int .i64 512] 3)).heap.size = u1.heap.size + 1 := by simp
  generalize e2 : u1.alloc (.cells #[.int .i64 512] 3) = u2 at a2 k2 s2
  have a3 := alloc_one u2 (.cells #[.func (.func 41) #[] #[]] 68)
  have k3 := Blk.new u2 68 #[.func (.func 41) #[] #[]]
  have s3 : (u2.alloc (.cells #[.func (.func 41) #[] #[]] 68)).heap.size = u2.heap.size + 1 := by simp
  generalize e3 : u2.alloc (.cells #[.func (.func 41) #[] #[]] 68) = u3 at a3 k3 s3
  have a4 := alloc_one u3 (.cells #[.int .i64 512] 3)
  have k4 := Blk.new u3 3 #[.int .i64 512]
  have s4 : (u3.alloc (.cells #[.int .i64 512] 3)).heap.size = u3.heap.size + 1 := by simp
  generalize e4 : u3.alloc (.cells #[.int .i64 512] 3) = u4 at a4 k4 s4
  have a5 := alloc_one u4 (.cells #[.func (.func 42) #[] #[]] 68)
  have k5 := Blk.new u4 68 #[.func (.func 42) #[] #[]]
  have s5 : (u4.alloc (.cells #[.func (.func 42) #[] #[]] 68)).heap.size = u4.heap.size + 1 := by simp
  generalize e5 : u4.alloc (.cells #[.func (.func 42) #[] #[]] 68) = u5 at a5 k5 s5
  have a6 := alloc_one u5 (.cells (ruleCells w.heap.size) 70)
  have k6 := Blk.new u5 70 (ruleCells w.heap.size)
  have s6 : (u5.alloc (.cells (ruleCells w.heap.size) 70)).heap.size = u5.heap.size + 1 := by simp
  have z0 : u0.heap.size = w.heap.size + 1 := s0
  rw [s0] at k1 s1
  rw [s1] at k2 s2
  rw [s2] at k3 s3
  rw [s3] at k4 s4
  rw [s4] at k5 s5
  rw [s5] at k6 s6
  have d6 : Below w.heap.size w (u5.alloc (.cells (ruleCells w.heap.size) 70)) := below_step (below_step (below_step (below_step (below_step (below_step a0 a1 (Nat.le_refl _)) a2 (Nat.le_refl _)) a3 (Nat.le_refl _)) a4 (Nat.le_refl _)) a5 (Nat.le_refl _)) a6 (Nat.le_refl _)
  have RM : RulesM (u5.alloc (.cells (ruleCells w.heap.size) 70)) w.heap.size := ⟨by omega, k6, (((((k0.later a1).later a2).later a3).later a4).later a5).later a6, ((((k1.later a2).later a3).later a4).later a5).later a6, (((k2.later a3).later a4).later a5).later a6, ((k3.later a4).later a5).later a6, (k4.later a5).later a6, k5.later a6⟩
  subst e5 e4 e3 e2 e1 e0
  have D6 := Lib.hid d6; have RMh := Lib.hid RM
  clear d6 RM a0 a1 a2 a3 a4 a5 a6 k0 k1 k2 k3 k4 k5 k6 s0 s1 s2 s3 s4 s5 s6 z0
  go_enter Try.func23, Try.ntmps23
  go_wp2_with fail
  refine (signed_made _ _).mono ?_
  rintro e w1 ⟨rfl, rfl⟩
  go_wp2_with fail
  refine (signed_made _ _).mono ?_
  rintro e w1 ⟨rfl, rfl⟩
  go_wp2_with fail
  refine (mapped_made _ _ _).mono ?_
  rintro e w1 ⟨rfl, rfl⟩
  go_wp2_with fail
  refine (mapped_made _ _ _).mono ?_
  rintro e w1 ⟨rfl, rfl⟩
  go_wp2_with fail
  go_ret
  exact ⟨rfl, D6.out, RMh.out⟩
end Go.Proofs.Ytgkhpebhhkdgoaa
/-
  A region that draws its order where two operations can come up: both orders.
  Conditions: none.
-/
namespace Go.Proofs.Ytgkhpebhhkdgoaa
set_option linter.unusedVariables false
set_option linter.unusedSimpArgs false
open Go.RowKit Go.Sort
section
variable {P : Program} {Q : Exit → Act → World → Prop} {md : Region.Mode} {S : World → Prop}
theorem phase_one_of {l : List Oper} (i : Nat) (fuel : Nat) {listed : Array Bool} {a : Act} {w : World} (hi : i < l.length)
    (h : wpList P l.toArray (Qn (fun a' w' => Behind P md l Q S fuel (listed.setIfInBounds i true) a' w') Q) [nth l i] a w) : wpOp P l.toArray Q i (fun a' w' => S w' ∧ wpAnyH P md l.toArray Q S fuel (listed.setIfInBounds i true) a' w') a w := by
  have ho : l.toArray[i]? = some (nth l i) := by rw [List.getElem?_toArray]; exact nth_some l i hi
  have fin : ∀ a' w', Behind P md l Q S fuel (listed.setIfInBounds i true) a' w' → S w' ∧ wpAnyH P md l.toArray Q S fuel (listed.setIfInBounds i true) a' w' := fun a' w' ⟨S', h1, h2, h3⟩ => ⟨h2 _ h1, held_mono h2 _ _ _ _ h3⟩
  refine wpOp_mono fin ?_
  unfold wpOp
  simp only [ho]
  simp only [wpList] at h
  by_cases hw : Region.wanted (nth l i) (yielded l.toArray a.tmps) = true
  · rw [if_pos hw] at h ⊢
    rcases h with h | ⟨h1, a0, w0, h2⟩
    · exact .inl h
    · exact .inr ⟨h1, a0, w0, h2⟩
  · rw [if_neg hw] at h ⊢
    exact h
theorem phase_two {l : List Oper} (i j : Nat) {n : Nat} (fuel : Nat) {listed : Array Bool} {a : Act} {w : World} (hn : n = fuel + 1) (hr : Region.ready md l.toArray listed = [i, j]) (hi : i < l.length) (hj : j < l.length)
    (h1 : wpList P l.toArray (Qn (fun a' w' => Behind P md l Q S fuel (listed.setIfInBounds i true) a' w') Q) [nth l i] a w)
    (h2 : wpList P l.toArray (Qn (fun a' w' => Behind P md l Q S fuel (listed.setIfInBounds j true) a' w') Q) [nth l j] a w) : wpAnyH P md l.toArray Q S n listed a w := by
  subst hn
  refine ⟨(fun h0 => by rw [hr] at h0; cases h0), fun k hk => ?_⟩
  rw [hr] at hk
  simp only [List.mem_cons, List.not_mem_nil, or_false] at hk
  rcases hk with rfl | rfl
  · exact phase_one_of _ _ hi h1
  · exact phase_one_of _ _ hj h2
end
end Go.Proofs.Ytgkhpebhhkdgoaa
