/-
  Texts joined: MapScat, ValMem, RpdMem.
  Conditions: none.
-/
import Derived.Test.YtkddillihhjghaaGreatJ02
import Derived.Test.YtkddillihhjghaaGreatJ04
import Derived.Test.YtkddillihhjghaaGreatJ10
import Derived.Test.YtkddillihhjghaaGreatJ11
import Derived.Test.YtkddillihhjghaaGreatJ12
/-
  Walks: Scatter of layer 30.
  Conditions: none.
-/
namespace Go.Proofs.YtkddillihhjghaaGreat
set_option linter.unusedVariables false
set_option linter.unusedSimpArgs false
open Go.RowKit
/-- What Scatter hands back. -/
def ScatPost (p : List Dc.Vl × Int) (w : World) (e : Ending) (w' : World) : Prop := ∃ A c, e = .returned (.tuple #[.slice A p.1.length c, .int .i64 p.2]) ∧ OS (VlW w' w.heap.size) w' w.heap.size 64 3 A p.1.length c p.1 ∧ Below w.heap.size w w'
theorem scat_bad {p : List Dc.Vl × Int} {w w' : World} {x : Int} (h : p = ([], x)) (hb : Below w.heap.size w w') : ScatPost p w (.returned (.tuple #[.slice none 0 0, .int .i64 x])) w' := by
  subst h
  exact ⟨none, 0, rfl, OS.none_ _ _ _ _, hb⟩
theorem scat_fine {p : List Dc.Vl × Int} {w w' : World} {A : Option Addr} {n c : Nat} {l : List Dc.Vl} (h : p = (l, 0)) (hn : l.length = n) (ho : OS (VlW w' w.heap.size) w' w.heap.size 64 3 A n c l) (hb : Below w.heap.size w w') : ScatPost p w (.returned (.tuple #[.slice A n c, .int .i64 0])) w' := by
  subst h hn
  exact ⟨A, c, rfl, ho, hb⟩
/-- A row of numbers. -/
theorem rows_ints {ws : List Int} {xs : List Value} (h2 : Rows (fun (x : Int) cs => cs = [Value.int .i64 x]) 1 ws xs) : xs = ws.map (Value.int .i64) := by
  apply List.ext_getElem?
  intro i
  have hx := h2.len
  rw [List.getElem?_map]
  by_cases hi : i < ws.length
  · have := h2.2 i _ (List.getElem?_eq_getElem hi)
    have e0 : ((xs.drop (i * 1)).take 1)[0]? = xs[i]? := by rw [List.getElem?_take, List.getElem?_drop]; simp
    rw [this] at e0
    simp [List.getElem?_eq_getElem hi, ← e0]
  · rw [List.getElem?_eq_none (by omega), List.getElem?_eq_none (by omega)]; rfl
/-- Numbers of the call's own. -/
def OI (w : World) (base : Nat) (A : Option Addr) (n c : Nat) (ws : List Int) : Prop := OS (fun (x : Int) cs => cs = [Value.int .i64 x]) w base 3 1 A n c ws
theorem OI.ri {w : World} {base n c : Nat} {A : Option Addr} {ws : List Int} (h : OI w base A n c ws) : RI w w.heap.size A n c ws := by
  obtain ⟨xs, h1, h2⟩ := h
  obtain rfl := rows_ints h2
  exact h1.rv
theorem OI.below {w w' : World} {base n c : Nat} {A : Option Addr} {ws : List Int} (h : OI w base A n c ws) (hb : Below w.heap.size w w') : OI w' base A n c ws := OS.below h hb fun _ _ h => h
theorem OI.none_ (w : World) (base : Nat) : OI w base none 0 0 [] := OS.none_ _ _ _ _
theorem widths_ok (ws : List Nat) : ∀ x ∈ Mp.widthsS ws, x ≤ 9223372036854775807 := by
  intro x hx
  unfold Mp.widthsS at hx
  obtain ⟨w, _, rfl⟩ := List.mem_map.1 hx
  have := Mp.bt_le w
  omega
theorem unpack_len (bs : List UInt8) (ws : List Int) (h : (Bt.unpackS bs ws).2 = 0) : (Bt.unpackS bs ws).1.length = ws.length := by
  unfold Bt.unpackS at *
  split
  · rename_i h1
    rw [if_pos h1] at h
    split
    · rename_i h2; rw [if_pos h2] at h; simp at h
    · exact Bt.unpK_length _ _ _
  · rename_i h1
    rw [if_neg h1] at h
    exact absurd h h1
theorem unpack_nil (bs : List UInt8) (ws : List Int) (h : (Bt.unpackS bs ws).2 ≠ 0) : (Bt.unpackS bs ws).1 = [] := by
  unfold Bt.unpackS at *
  split
  · rename_i h1
    rw [if_pos h1] at h
    split
    · rfl
    · rename_i h2; rw [if_neg h2] at h; exact absurd rfl h
  · rfl
set_option maxRecDepth 100000 in
set_option maxHeartbeats 8000000 in
theorem Scatter_any {F : Nat → Prop} {w : World} {g gv lc vc : Nat} {la : Addr} {vA : Option Addr} {xs vs : List Value} {D : Dc.Dic} {A : Option Addr} {n c B : Nat} {ws : List Nat} {A' : Option Addr} {n' c' B' : Nat} {bs : List UInt8} (h : DRt 71 w F g gv (some la) lc vA vc xs vs D) (hd : ∀ e ∈ D.l, e.dflt.length ≤ 1000000) (hw : RW w B A n c ws) (hwl : ∀ x ∈ ws, x < 4294967296) (hB : B ≤ w.heap.size) (hb : RB w B' A' n' c' bs) (hn' : n' ≤ 1000000) (hB' : B' ≤ w.heap.size) : Calls Tryz.prog 41 #[.pointer (some ⟨g, 0, none⟩), .slice A n c, .slice A' n' c'] w (ScatPost (Mp.scatterS D.l ws bs) w) := by
  have hl := hw.len
  have RI := MRight_any true h hd hw hwl hB
  have hgs : Mp.scatterS D.l ws bs = if Mp.checkS D.l true ws ≠ 0 then ([], 4) else if (Bt.unpackS bs (Mp.widthsS ws)).2 ≠ 0 then ([], (Bt.unpackS bs (Mp.widthsS ws)).2)
    else if Mp.allTake D.l ws (Bt.unpackS bs (Mp.widthsS ws)).1 ws.length = true then (Mp.vlsK ws (Bt.unpackS bs (Mp.widthsS ws)).1 ws.length, 0) else ([], 9) := rfl
  have hce := Mp.check_each (l := D.l) (inn := true) (ws := ws)
  generalize Mp.checkS D.l true ws = r at *
  by_cases hr : r = 0
  · subst hr
    simp only [ne_eq, not_true_eq_false, if_false] at hgs RI
    obtain ⟨h8', hone⟩ := hce rfl
    have h8 : n ≤ 8 := by rw [← hl]; exact h8'
    have HONE := Lib.hid (fun i hi => Mp.one_found (hone i hi).1)
    clear hce hone h8'
    replace RI := Lib.hid RI
    have HL := Lib.hid hl
    have HGS := Lib.hid hgs
    clear hl hgs
    go_enter Tryz.func41, Tryz.ntmps41
    go_wp2_with fail
    refine (RI.out).mono ?_
    rintro e w1 ⟨rfl, b1⟩
    go_wp2_with fail
    go_loopw [9, 27] (fun v i wr => ∃ (k : Nat) (A1 : Option Addr) (c1 : Nat), k ≤ n ∧ i = .int .i64 k ∧ v = .slice A1 k c1 ∧ OI wr w.heap.size A1 k c1 (Mp.widthsS (ws.take k)) ∧ Below w.heap.size w wr) (fun _ i _ => n - (intOf i).toNat)
    case atStart => exact ⟨0, _, _, by omega, rfl, rfl, OI.none_ _ _, b1⟩
    case round =>
      clear b1
      obtain ⟨k, A1, c1, hk, rfl, rfl, os, bb⟩ := hrel
      by_cases hlt : k < n
      · obtain ⟨b, o, rfl, hbB, q0⟩ := (hw.below (bb.mono hB)).at_ hlt
        have hnx := Mp.widths_take ws (k := k) (by rw [HL.out]; exact hlt)
        have hwv := word_lt hwl k
        have e2 : bits .and .u32 ((ws.getD k 0 : Nat) : Int) 255 = ((Mp.bt (ws.getD k 0) : Nat) : Int) := and255 _ hwv rfl
        have hbt := Mp.bt_le (ws.getD k 0)
        have e3 : wrap64 ((Mp.bt (ws.getD k 0) : Nat) : Int) = ((Mp.bt (ws.getD k 0) : Nat) : Int) := by unfold wrap64; omega
        generalize Mp.bt (ws.getD k 0) = y at *
        generalize ws.getD k 0 = x at *
        have HN := Lib.hid hnx
        clear hnx
        go_wp2_with (at_builtin; refine wpList_apps etint (fun _ (x : Int) cs => cs = [Value.int .i64 x]) rfl (.tmp 31) (.tmp 35) rfl rfl rfl rfl w.heap.size os (y : Int) rfl rfl (fun u hu => by simp only [List.mem_cons, List.not_mem_nil, or_false] at hu; rw [hu]; rfl) (by omega) (by omega) bb.size (fun w1 A1 n1 c1 xs h g f cs hf => hf) ?_; intro A3 c3 w3 os3 b3 g3 _)
        go_roundw
        case rel => exact ⟨k + 1, A3, c3, by omega, by go_num, rfl, by rw [HN.out]; exact os3, bb.trans b3⟩
        case measure => simp [intOf] <;> omega
      · obtain rfl : k = n := by omega
        have hall : ws.take k = ws := List.take_of_length_le (by rw [HL.out]; omega)
        rw [hall] at os
        have UN := Unpack_any wr (hb.below (bb.mono hB')) os.ri hn' (by omega) (Nat.le_trans hB' bb.size) (Nat.le_refl _) (widths_ok ws)
        have hun := unpack_len bs (Mp.widthsS ws)
        have hun2 := unpack_nil bs (Mp.widthsS ws)
        rw [Mp.widths_len, HL.out] at hun
        have hgs := HGS.out
        unfold UnpPost at UN
        generalize Bt.unpackS bs (Mp.widthsS ws) = up at *
        obtain ⟨fs, ue⟩ := up
        dsimp only at UN hun hun2 hgs
        replace UN := Lib.hid UN
        clear os hall HGS
        by_cases hue : ue = 0
        · subst hue
          obtain rfl : fs.length = k := hun rfl
          simp only [ne_eq, not_true_eq_false, if_false] at hgs
          rw [HL.out] at hgs
          have HGS := Lib.hid hgs
          clear hgs hun hun2
          go_wp2_with fail
          refine (UN.out).mono ?_
          rintro e wu ⟨Af, cf, rfl, of_, bu⟩
          have du := below_step bb bu (Nat.le_refl _)
          replace of_ := of_.more bb.size (R' := FlW wu w.heap.size) fun _ _ h => h.more bb.size
          clear UN bu bb
          go_wp2_with fail
          go_loopw [14, 49] (fun v i wr => ∃ (k : Nat) (A1 : Option Addr) (c1 : Nat), k ≤ fs.length ∧ i = .int .i64 k ∧ v = .slice A1 k c1 ∧ OS (VlW wr w.heap.size) wr wu.heap.size 64 3 A1 k c1 (Mp.vlsK ws fs k) ∧ Below wu.heap.size wu wr ∧ Mp.allTake D.l ws fs k = true) (fun _ i _ => fs.length - (intOf i).toNat)
          case atStart => exact ⟨0, _, _, by omega, rfl, rfl, OS.none_ _ _ _ _, Below.refl _ _, rfl⟩
          case round =>
            obtain ⟨k, A1, c1, hk, rfl, rfl, os, bb, hat⟩ := hrel
            have HAT := Lib.hid hat
            clear hat
            have db := below_step du bb (Nat.le_refl _)
            by_cases hlt : k < fs.length
            · obtain ⟨b, o, rfl, hbB, q0⟩ := (hw.below (db.mono hB)).at_ hlt
              obtain ⟨kk, hf1, hf2, hf3, hf4, hf5⟩ := HONE.out k (by rw [HL.out]; exact hlt)
              have FN := find_any (ws.getD k 0) (word_lt hwl k) (h.below db) hd
              unfold FindP at FN
              rw [hf1] at FN
              dsimp only at FN
              obtain ⟨hp1, hp2, hp3⟩ := (Dc.find_some hf1).2
              have htk : Mp.takes D.l ws fs k = decide (Ent.valS (Mp.entOf D.l (ws.getD k 0)) (fs.getD k Bt.Fld.zero).data = 0) := rfl
              rw [hf2] at htk
              have hvk : Mp.vlsK ws fs (k + 1) = Mp.vlsK ws fs k ++ [⟨(Mp.ix (ws.getD k 0) : Int), (Mp.sb (ws.getD k 0) : Int), (fs.getD k Bt.Fld.zero).data⟩] := rfl
              rw [← hp2, ← hp3] at hvk
              have ofr := of_.below bb (R' := FlW wr w.heap.size) fun _ _ h => h.below bb
              have hfg : fs[k]? = some (fs.getD k Bt.Fld.zero) := by simp [List.getD, List.getElem?_eq_getElem hlt]
              obtain ⟨bf, offs, cs, hAf, hbf, ⟨A2, n2, c2, rfl, ow2⟩, hcf⟩ := RS.at_ ofr.rs (by decide) hfg
              have f1 := hcf 1 _ (by decide) rfl
              subst hAf
              have hleF : ∀ ab, (some ⟨bf, offs, none⟩ : Option Addr) = ab → True := fun _ _ => trivial
              have hcapF : fs.length ≤ cf := by obtain ⟨zs, z1, _⟩ := of_; exact z1.rv.le
              have hcapF2 : cf ≤ 9223372036854775807 := by obtain ⟨zs, z1, _⟩ := of_; exact z1.rv.cap
              generalize (fs.getD k Bt.Fld.zero).data = dat at *
              generalize D.l.getD kk Dc.en0 = en at *
              clear hf1 hf2 hf3 hf4 hf5 hp1 hp2 hp3 hfg hcf ofr
              obtain ⟨ix, sb, nm, ty, ac, mp, st, mx, lo, hi, df⟩ := en
              dsimp only at FN hvk
              generalize ws.getD k 0 = x at *
              have HVK := Lib.hid hvk; have HTK := Lib.hid htk
              clear hvk htk
              have EV := fun A n c w2 (hb : Below wr.heap.size wr w2) => EValue_any ⟨ix, sb, nm, ty, ac, mp, st, mx, lo, hi, df⟩ A n c w2 (ow2.rb.below hb) hb.size
              unfold enV at EV
              dsimp only at EV
              generalize (Mp.bt x : Int) = vb at FN
              replace FN := Lib.hid FN
              replace EV := Lib.hid EV
              go_wp2_with fail
              refine (FN.out).mono ?_
              rintro e w1 ⟨A3, n3, c3, rfl, o3, b1⟩
              have b2 := alloc_one w1 (.cells #[.int .i64 ix, .int .i64 sb, .string (T nm), .int .i64 ty, .int .i64 ac, .bool mp, .bool st, .int .i64 mx, .int .i64 lo, .int .i64 hi, .slice A3 n3 c3, .int .i64 vb] 117)
              have K := Blk.new w1 117 #[.int .i64 ix, .int .i64 sb, .string (T nm), .int .i64 ty, .int .i64 ac, .bool mp, .bool st, .int .i64 mx, .int .i64 lo, .int .i64 hi, .slice A3 n3 c3, .int .i64 vb]
              have d2 := below_step b1 b2 (Nat.le_refl _)
              generalize hv : Ent.valS ⟨ix, sb, nm, ty, ac, mp, st, mx, lo, hi, df⟩ dat = vv at *
              clear hv
              have TW := K.twelve.1
              have k0 := cell_regrown TW.1
              have k1 := cell_regrown TW.2.1
              have k2 := cell_regrown TW.2.2.1
              have k3 := cell_regrown TW.2.2.2.1
              have k4 := cell_regrown TW.2.2.2.2.1
              have k5 := cell_regrown TW.2.2.2.2.2.1
              have k6 := cell_regrown TW.2.2.2.2.2.2.1
              have k7 := cell_regrown TW.2.2.2.2.2.2.2.1
              have k8 := cell_regrown TW.2.2.2.2.2.2.2.2.1
              have k9 := cell_regrown TW.2.2.2.2.2.2.2.2.2.1
              have k10 := cell_regrown TW.2.2.2.2.2.2.2.2.2.2.1
              clear TW
              have f1' := cell_regrown ((d2.cell (p := ⟨bf, offs + k * 2 + 1, none⟩) hbf).trans f1)
              have i0 : (0 : Int) ≤ (k : Int) := by omega
              have i1 : (k : Int) < (fs.length : Int) := by omega
              go_wp2_with fail
              refine region_later (by kernel_rfl) ?_
              refine phase_later (by kernel_rfl) 2 (below_drew _) [0, 2, 3, 1, 4, 5, 6] rfl (by kernel_rfl) ?_
              simp only [picks, nth]
              repeat (go_big_quiet_step (fail))
              refine wpQuiet_nil ?_
              refine phase_op 7 1 rfl (by kernel_rfl) (by decide) ?_
              simp only [nth]
              go_wp2_with fail
              refine (EV.out _ _ _ _ (d2.trans ((below_drew _).mono d2.size))).mono ?_
              rintro e w3 ⟨rfl, b3⟩
              have b3' : Below (w1.alloc (.cells #[.int .i64 ix, .int .i64 sb, .string (T nm), .int .i64 ty, .int .i64 ac, .bool mp, .bool st, .int .i64 mx, .int .i64 lo, .int .i64 hi, .slice A3 n3 c3, .int .i64 vb] 117)).heap.size (w1.alloc (.cells #[.int .i64 ix, .int .i64 sb, .string (T nm), .int .i64 ty, .int .i64 ac, .bool mp, .bool st, .int .i64 mx, .int .i64 lo, .int .i64 hi, .slice A3 n3 c3, .int .i64 vb] 117)) w3 := (below_drew _).trans b3
              have d3 := below_step d2 b3' (Nat.le_refl _)
              replace K := K.later b3'
              go_wp2_with fail
              refine behind_later b3' ?_
              clear k0 k1 k2 k3 k4 k5 k6 k7 k8 k9 k10 f1' EV
              have HD2 := Lib.hid d2
              clear d2 b3' b3 b2 o3
              by_cases hv0 : vv = 0
              · subst hv0
                have htk : Mp.takes D.l ws fs k = true := by rw [HTK.out]; rfl
                have HAT2 := Lib.hid (show Mp.allTake D.l ws fs (k + 1) = true by rw [Mp.allTake, HAT.out, htk]; rfl)
                clear htk HTK
                refine phase_later (by kernel_rfl) 0 (Below.refl _ _) [8] rfl (by kernel_rfl) ?_
                simp only [picks, nth]
                repeat (go_big_quiet_step (fail))
                refine wpQuiet_nil ?_
                refine phase_end (by kernel_rfl) ?_
                have os3 := os.below d3 (R' := VlW w3 w.heap.size) fun _ _ h => h.below d3
                have ow3 := ow2.below d3
                have f3 := (d3.cell (p := ⟨bf, offs + k * 2 + 1, none⟩) hbf).trans f1
                have of3 := (of_.below bb (R' := FlW wr w.heap.size) fun _ _ h => h.below bb).below d3 (R' := FlW w3 w.heap.size) fun _ _ h => h.below d3
                have bb3 := below_step bb d3 (Nat.le_refl _)
                obtain ⟨Gq, hGq⟩ : ∃ G : Nat → Prop, ∀ q, G q ↔ some q = (Value.slice A1 k c1).ownBlock := ⟨fun q => some q = (Value.slice A1 k c1).ownBlock, fun _ => Iff.rfl⟩
                have hG1 : ¬ Gq w1.heap.size := fun e => by
                  obtain ⟨ys, y1, _⟩ := os3
                  exact own_blk_ne y1 K (by decide) ((hGq _).1 e).symm
                have hG2 : ¬ Gq bf := fun e => by
                  obtain ⟨ys, y1, _⟩ := os3
                  obtain ⟨zs, z1, _⟩ := of3
                  rcases own_own_ne y1 z1 (by decide) with h5 | h5
                  · simp [Value.ownBlock] at h5
                  · exact h5 ((hGq _).1 e)
                have TW := K.twelve.1
                have k0 := cell_mv (G := Gq) TW.1 hG1
                have k1 := cell_mv (G := Gq) TW.2.1 hG1
                have fc := cell_mv (G := Gq) f3 hG2
                have HGQ := Lib.hid hGq
                have b4 : Below w3.heap.size w3 (w3.drew.alloc (.cells #[.int .i64 ix, .int .i64 sb, .slice A2 n2 c2] 64)) := (below_drew w3).trans (alloc_one w3.drew _)
                have os4 := os3.below b4 (R' := VlW _ w.heap.size) fun _ _ h => h.below b4
                have hnew := RV.new w3.drew 64 (size := 3) (cs := [.int .i64 ix, .int .i64 sb, .slice A2 n2 c2]) rfl
                have hf4 : VlW (w3.drew.alloc (.cells #[.int .i64 ix, .int .i64 sb, .slice A2 n2 c2] 64)) w.heap.size ⟨ix, sb, dat⟩ [.int .i64 ix, .int .i64 sb, .slice A2 n2 c2] := ⟨A2, n2, c2, rfl, ow3.below b4⟩
                have bb4 := below_step bb3 b4 (Nat.le_refl _)
                clear os3 of3 ow3 hGq hG1 hG2 TW K f3
                go_wp2_with fail
                refine region_mv 99 Gq (by kernel_rfl) ?_
                refine phase_mv (by kernel_rfl) 3 (Mv.refl _ _).drew [0, 1, 4, 7, 8, 2, 5, 9, 3, 6, 10, 11, 12] rfl (by kernel_rfl) ?_
                simp only [picks, nth]
                repeat (go_big_quiet_step (fail))
                refine wpQuiet_nil ?_
                refine phase_opL 13 2 rfl (by kernel_rfl) (by decide) ?_
                simp only [nth]
                go_wp2_with fail
                refine behind_mv (Mv.of_new b4 _) ?_
                refine phase_opL 14 1 rfl (by kernel_rfl) (by decide) ?_
                simp only [nth]
                go_wp2_with (at_builtin; refine wpList_apps2 etvl (fun w1 => VlW w1 w.heap.size) rfl (.tmp 69) (.tmp 82) rfl rfl rfl wu.heap.size os4 ⟨ix, sb, dat⟩ hnew hf4 (value_oneCell _ _ _ _ _) (by omega) (by omega) bb4.size (fun w1 A1 n1 c1 xs h g f cs hf => hf.beside h (by decide) g) ?_; intro A5 c5 w5 o5 b5 g5 _)
                have M5 : Mv Gq w3 w5 := (Mv.of_new b4 _).trans (Mv.of_grown g5) fun b hb e => (HGQ.out _).2 e
                refine behind_mv M5 ?_
                refine phase_mv (by kernel_rfl) 0 M5 [15] rfl (by kernel_rfl) ?_
                simp only [picks, nth]
                repeat (go_big_quiet_step (fail))
                refine wpQuiet_nil ?_
                refine phase_endL (by kernel_rfl) ?_
                have bb5 := bb4.trans b5
                clear k0 k1 fc os4 hnew hf4
                go_wp2_with fail
                go_roundw
                case rel => exact ⟨k + 1, A5, c5, by omega, by go_num, rfl, by rw [HVK.out]; exact o5, bb5, HAT2.out⟩
                case measure => simp [intOf] <;> omega
              · have htk : Mp.takes D.l ws fs k = false := by rw [HTK.out]; exact decide_eq_false hv0
                have hbad : Mp.scatterS D.l ws bs = ([], 9) := by
                  rw [HGS.out, Mp.allTake_no hlt htk]
                  rfl
                have hv2 : (vv == 0) = false := by simpa using hv0
                have hv3 : (vv != 0) = true := by simpa using hv0
                have HB9 := Lib.hid hbad
                clear hbad htk HTK hv0
                refine phase_later (by kernel_rfl) 0 (Below.refl _ _) [8] rfl (by kernel_rfl) ?_
                simp only [picks, nth]
                repeat (go_big_quiet_step (fail))
                refine wpQuiet_nil ?_
                refine phase_end (by kernel_rfl) ?_
                go_wp2_with fail
                go_ret2
                exact scat_bad HB9.out (below_step db d3 (Nat.le_refl _))
            · obtain rfl : k = fs.length := by omega
              have hat := HAT.out
              go_wp2_with fail
              go_ret2
              refine scat_fine (by rw [HGS.out]; exact if_pos hat) (Mp.vlsK_length _ _ _) (os.more du.size fun _ _ h => h) db
        · obtain rfl : fs = [] := hun2 hue
          simp only [ne_eq, hue, not_false_eq_true, if_true] at hgs
          have hue2 : (ue == 0) = false := by simpa using hue
          have hue3 : (ue != 0) = true := by simpa using hue
          have HGS := Lib.hid hgs
          clear hgs hun hun2 hue
          go_wp2_with fail
          refine (UN.out).mono ?_
          rintro e wu ⟨Af, cf, rfl, of_, bu⟩
          go_wp2_with fail
          go_ret2
          exact scat_bad HGS.out (below_step bb bu (Nat.le_refl _))
  · simp only [ne_eq, hr, not_false_eq_true, if_true] at hgs RI
    rw [hgs]
    have hr2 : (r == 0) = false := by simpa using hr
    clear hgs hce hr hl
    replace RI := Lib.hid RI
    go_enter Tryz.func41, Tryz.ntmps41
    go_wp2_with fail
    refine (RI.out).mono ?_
    rintro e w1 ⟨rfl, b1⟩
    go_wp2_with fail
    go_ret2
    exact scat_bad rfl b1
end Go.Proofs.YtkddillihhjghaaGreat
/-
  Values in memory; Light of the references of layers 15 and 18; entries and values as arguments.
  Conditions: none.
-/
namespace Go.Proofs.YtkddillihhjghaaGreat
set_option linter.unusedVariables false
set_option linter.unusedSimpArgs false
open Go.ChangeShapes Go.WideShapes Go.ChangeAt Go.RowKit
/-- The cells of a value that is read; its bytes below B. -/
def VlC (w : World) (B : Nat) (f : Dc.Vl) (cs : List Value) : Prop := ∃ A n c, cs = [.int .i64 f.index, .int .i64 f.sub, .slice A n c] ∧ RB w B A n c f.data
theorem VlC.below {w w' : World} {B : Nat} {f : Dc.Vl} {cs : List Value} (hb : Below B w w') (h : VlC w B f cs) : VlC w' B f cs := by
  obtain ⟨A, n, c, h1, h2⟩ := h
  exact ⟨A, n, c, h1, h2.below hb⟩
theorem VlC.more {w : World} {B B' : Nat} {f : Dc.Vl} {cs : List Value} (hB : B ≤ B') (h : VlC w B f cs) : VlC w B' f cs := by
  obtain ⟨A, n, c, h1, h2⟩ := h
  exact ⟨A, n, c, h1, h2.more hB⟩
def vl0 : Dc.Vl := ⟨0, 0, []⟩
def RVl (w : World) (B B' : Nat) (A : Option Addr) (n c : Nat) (fs : List Dc.Vl) : Prop := RS (VlC w B') w B 3 A n c fs
section
variable {w w' : World} {B B' n c : Nat} {A : Option Addr} {fs : List Dc.Vl}
theorem RVl.len (h : RVl w B B' A n c fs) : fs.length = n := RS.len h (by decide)
theorem RVl.lt (h : RVl w B B' A n c fs) : n ≤ 9223372036854775807 := RS.lt h
theorem RVl.below (h : RVl w B B' A n c fs) (hb : Below B w w') (hB : B' ≤ B) : RVl w' B B' A n c fs := RS.below h hb fun _ _ h => h.below (hb.mono hB)
theorem RVl.at_ (h : RVl w B B' A n c fs) {i : Nat} (hi : i < n) : ∃ b o A' n' c', A = some ⟨b, o, none⟩ ∧ b < B ∧ w.cell? ⟨b, o + i * 3, none⟩ = some (.int .i64 (fs.getD i vl0).index) ∧
    w.cell? ⟨b, o + i * 3 + 1, none⟩ = some (.int .i64 (fs.getD i vl0).sub) ∧ w.cell? ⟨b, o + i * 3 + 2, none⟩ = some (.slice A' n' c') ∧ RB w B' A' n' c' (fs.getD i vl0).data := by
  have hl := h.len
  have hf : fs[i]? = some (fs.getD i vl0) := by simp [List.getD, List.getElem?_eq_getElem (show i < fs.length by omega)]
  obtain ⟨b, o, cs, rfl, hb, ⟨A', n', c', rfl, hr⟩, hc⟩ := RS.at_ h (by decide) hf
  exact ⟨b, o, A', n', c', rfl, hb, hc 0 _ (by decide) rfl, hc 1 _ (by decide) rfl, hc 2 _ (by decide) rfl, hr⟩
end
section
variable {H : Type} {enc : TypeId × Value → H} {w : World} {spare : Nat → Bool} {held : Bool}
set_option maxRecDepth 100000 in
theorem cells_entry {fuel : Nat} {cs : List Value} {x : DataW H × List MemPlace} (h : DataW.trod enc Tryz.prog w 0 spare held fuel 68 cs = some x) : ∃ e, EnC w w.heap.size e cs ∧ e.name.length ≤ 9223372036854775807 := by
  have h3 : cs.length = 11 := trod_len Tryz.underlying68 h (by kernel_rfl)
  match cs, h3 with
  | [a0, a1, a2, a3, a4, a5, a6, a7, a8, a9, a10], _ =>
    obtain ⟨_, _, t0⟩ := trod_one Tryz.underlying68 h 0 3 0 a0 rfl (by kernel_rfl) rfl
    obtain ⟨_, _, t1⟩ := trod_one Tryz.underlying68 h 1 3 1 a1 rfl (by kernel_rfl) rfl
    obtain ⟨_, _, t2⟩ := trod_one Tryz.underlying68 h 2 9 2 a2 rfl (by kernel_rfl) rfl
    obtain ⟨_, _, t3⟩ := trod_one Tryz.underlying68 h 3 3 3 a3 rfl (by kernel_rfl) rfl
    obtain ⟨_, _, t4⟩ := trod_one Tryz.underlying68 h 4 3 4 a4 rfl (by kernel_rfl) rfl
    obtain ⟨_, _, t5⟩ := trod_one Tryz.underlying68 h 5 4 5 a5 rfl (by kernel_rfl) rfl
    obtain ⟨_, _, t6⟩ := trod_one Tryz.underlying68 h 6 4 6 a6 rfl (by kernel_rfl) rfl
    obtain ⟨_, _, t7⟩ := trod_one Tryz.underlying68 h 7 3 7 a7 rfl (by kernel_rfl) rfl
    obtain ⟨_, _, t8⟩ := trod_one Tryz.underlying68 h 8 2 8 a8 rfl (by kernel_rfl) rfl
    obtain ⟨_, _, t9⟩ := trod_one Tryz.underlying68 h 9 2 9 a9 rfl (by kernel_rfl) rfl
    obtain ⟨_, _, t10⟩ := trod_one Tryz.underlying68 h 10 49 10 a10 rfl (by kernel_rfl) rfl
    obtain ⟨i0, rfl, _⟩ := cell_int Tryz.underlying3 t0
    obtain ⟨i1, rfl, _⟩ := cell_int Tryz.underlying3 t1
    obtain ⟨s, rfl, hs⟩ := cell_string Tryz.underlying9 t2
    obtain ⟨i3, rfl, _⟩ := cell_int Tryz.underlying3 t3
    obtain ⟨i4, rfl, _⟩ := cell_int Tryz.underlying3 t4
    obtain ⟨b5, rfl⟩ := cell_bool Tryz.underlying4 t5
    obtain ⟨b6, rfl⟩ := cell_bool Tryz.underlying4 t6
    obtain ⟨i7, rfl, _⟩ := cell_int Tryz.underlying3 t7
    obtain ⟨i8, rfl, _⟩ := cell_int Tryz.underlying2 t8
    obtain ⟨i9, rfl, _⟩ := cell_int Tryz.underlying2 t9
    obtain ⟨A, n, c, l, rfl, hr⟩ := cell_bytes Tryz.underlying49 Tryz.underlying5 (by kernel_rfl) t10
    obtain ⟨nm, rfl⟩ := T_of s
    rw [T_size] at hs
    exact ⟨⟨i0, i1, nm, i3, i4, b5, b6, i7, i8, i9, l⟩, ⟨A, n, c, rfl, hr⟩, by simpa [maxLen] using hs⟩
/-- Entries, as their slice's cell. -/
theorem cell_entries {fuel : Nat} {v : Value} {x : DataW H × List MemPlace} (h : DataW.trod enc Tryz.prog w 0 spare held fuel 22 [v] = some x) :
    ∃ (A : Option Addr) (n c : Nat) (es : List Ent.En), v = .slice A n c ∧ REn w w.heap.size w.heap.size A n c es ∧ ∀ e ∈ es, e.name.length ≤ 9223372036854775807 := by
  obtain ⟨A, n, c, rfl⟩ := cell_slice Tryz.underlying22 h
  obtain ⟨es, xs, hl, h1, h2⟩ := open_rows (fun e cs => EnC w w.heap.size e cs ∧ e.name.length ≤ 9223372036854775807) Tryz.underlying22 (show Tryz.prog.cellsOf 68 = 11 by kernel_rfl) (by decide) (fun _ _ _ h => cells_entry h) h
  refine ⟨A, n, c, es, rfl, ⟨xs, h1, h2.imp fun _ _ h => h.1⟩, fun f hm => ?_⟩
  obtain ⟨i, hi, rfl⟩ := List.getElem_of_mem hm
  exact (h2.2 i _ (List.getElem?_eq_getElem hi)).2
end
/-- What Light tells of entries. -/
def Light15P (n : Nat) (es : List Ent.En) (w : World) (e : Ending) (w' : World) : Prop := ∃ b : Bool, e = .returned (.bool b) ∧ w = w' ∧ (b = true → n ≤ 200 ∧ ∀ e ∈ es, e.name.length ≤ 1000 ∧ e.dflt.length ≤ 1000)
theorem light15_no {n : Nat} {es : List Ent.En} {w : World} : Light15P n es w (.returned (.bool false)) w := ⟨false, rfl, rfl, fun h => by cases h⟩
theorem light15_yes {n : Nat} {es : List Ent.En} {w : World} (hl : es.length = n) (h : n ≤ 200 ∧ ∀ i, i < n → (es.getD i Dc.en0).name.length ≤ 1000 ∧ (es.getD i Dc.en0).dflt.length ≤ 1000) : Light15P n es w (.returned (.bool true)) w :=
  ⟨true, rfl, rfl, fun _ => ⟨h.1, fun e he => by
    obtain ⟨i, hi, rfl⟩ := List.getElem_of_mem he
    have := h.2 i (by omega)
    rwa [List.getD_eq_getElem?_getD, List.getElem?_eq_getElem hi] at this⟩⟩
set_option maxRecDepth 100000 in
set_option maxHeartbeats 1000000 in
theorem Light15_any {A : Option Addr} {n c B B' : Nat} {es : List Ent.En} (w : World) (h : REn w B B' A n c es) (hnm : ∀ e ∈ es, e.name.length ≤ 9223372036854775807) :
    Calls Tryz.prog 23 #[.slice A n c] w (Light15P n es w) := by
  have hn := h.lt
  have hl := h.len
  by_cases h200 : 200 < n
  · go_enter Tryz.func23, Tryz.ntmps23
    go_wp2_with fail
    go_ret
    exact light15_no
  · have HL := Lib.hid hl
    go_enter Tryz.func23, Tryz.ntmps23
    go_wp2_with fail
    go_loop [3] (fun i => ∃ k : Nat, k ≤ n ∧ i = .int .i64 k ∧ ∀ j, j < k → (es.getD j Dc.en0).name.length ≤ 1000 ∧ (es.getD j Dc.en0).dflt.length ≤ 1000) (fun i => n - (intOf i).toNat)
    case atStart => exact ⟨0, by omega, rfl, fun _ h => absurd h (by omega)⟩
    case round =>
      obtain ⟨k, hk, rfl, hall⟩ := hrel
      have HALL := Lib.hid hall; clear hall
      by_cases hlt : k < n
      · obtain ⟨b, o, A1, n1, c1, rfl, hbB, hr, hc⟩ := h.at_ hlt
        have q2 := hc 2 _ rfl
        have q10 := hc 10 _ rfl
        have hrl := hr.len
        have hmem : es.getD k Dc.en0 ∈ es := by
          rw [List.getD_eq_getElem?_getD, List.getElem?_eq_getElem (by omega)]
          exact List.getElem_mem _
        have hnl := hnm _ hmem
        have HJ := Lib.hid (fun (h1 : (es.getD k Dc.en0).name.length ≤ 1000) (h2 : n1 ≤ 1000) (j : Nat) (hj : j < k + 1) => show (es.getD j Dc.en0).name.length ≤ 1000 ∧ (es.getD j Dc.en0).dflt.length ≤ 1000 from by
          rcases Nat.lt_or_ge j k with h | h
          · exact HALL.out j h
          · obtain rfl : j = k := by omega
            exact ⟨h1, by rw [hrl]; exact h2⟩)
        clear hmem hrl hr hc hnm hl
        generalize es.getD k Dc.en0 = e0 at *
        obtain ⟨ix, sb, nm, ty, ac, mp, st, mx, lo, hi, df⟩ := e0
        dsimp only at q2 q10 hnl HJ
        have hts := T_size nm
        by_cases hbig : 1000 < n1
        · go_wp2_with fail
          go_ret
          exact light15_no
        · by_cases hbig2 : 1000 < nm.length
          · go_wp2_with fail
            go_ret
            exact light15_no
          · have HTS := Lib.hid hts
            go_wp2_with fail
            go_round
            case rel => exact ⟨k + 1, by omega, by go_num, HJ.out (by omega) (by omega)⟩
            case measure => simp [intOf] <;> omega
      · obtain rfl : k = n := by omega
        go_wp2_with fail
        go_ret
        exact light15_yes HL.out ⟨by omega, HALL.out⟩
end Go.Proofs.YtkddillihhjghaaGreat
/-
  A PDO that is received, in memory.
  Conditions: none.
-/
namespace Go.Proofs.YtkddillihhjghaaGreat
set_option linter.unusedVariables false
set_option linter.unusedSimpArgs false
open Go.RowKit
theorem etw : ET Tryz.prog 24 23 1 4 (.int .u32 0) := ⟨Tryz.underlying24, info_parts (by kernel_rfl), rfl, by decide⟩
/-- Words of the call's own. -/
def OWd (w : World) (base : Nat) (A : Option Addr) (n c : Nat) (ws : List Nat) : Prop := OV w base 23 1 A n c (ws.map fun (x : Nat) => Value.int .u32 (x : Int))
theorem OWd.rw {w : World} {base n c : Nat} {A : Option Addr} {ws : List Nat} (h : OWd w base A n c ws) : RW w w.heap.size A n c ws := OV.rv h
/-- What becomes of values that came: handed on, or held. -/
def takeF (t : Int) (gp : Nat) : Value := if t ≤ 240 then .func (.func 34) #[] #[.pointer (some ⟨gp, 0, none⟩)] else .func (.func 33) #[] #[]
structure RpM (w : World) (base g gp gd : Nat) (v : Nat) (t : Int) (ws : List Nat) (waits : List Dc.Vl) (Aw : Option Addr) (cw : Nat) (Av : Option Addr) (cv : Nat) : Prop where
  gb : base ≤ g
  gpb : base ≤ gp
  ne : g ≠ gp
  blk : Blk w g 81 #[.pointer (some ⟨gd, 0, none⟩), .int .i64 (Cob.pdo v : Int), .slice Aw ws.length cw, .slice Av waits.length cv, takeF t gp]
  box : t ≤ 240 → Blk w gp 41 #[.pointer (some ⟨g, 0, none⟩)]
  words : OWd w base Aw ws.length cw ws
  wait : OS (VlW w base) w base 64 3 Av waits.length cv waits
theorem Blk.five {w : World} {g : Nat} {t : TypeId} {a b c d e : Value} (h : Blk w g t #[a, b, c, d, e]) : (w.cell? ⟨g, 0, none⟩ = some a ∧ w.cell? ⟨g, 1, none⟩ = some b ∧ w.cell? ⟨g, 2, none⟩ = some c ∧ w.cell? ⟨g, 3, none⟩ = some d ∧ w.cell? ⟨g, 4, none⟩ = some e) ∧ (w.frozen? ⟨g, 0, none⟩ = false ∧ w.frozen? ⟨g, 1, none⟩ = false ∧ w.frozen? ⟨g, 2, none⟩ = false ∧ w.frozen? ⟨g, 3, none⟩ = false ∧ w.frozen? ⟨g, 4, none⟩ = false) := ⟨⟨h.cell 0, h.cell 1, h.cell 2, h.cell 3, h.cell 4⟩, h.frozen 0, h.frozen 1, h.frozen 2, h.frozen 3, h.frozen 4⟩
section
variable {w w' : World} {base g gp gd v : Nat} {t : Int} {ws : List Nat} {waits : List Dc.Vl} {Aw Av : Option Addr} {cw cv : Nat}
theorem RpM.below (h : RpM w base g gp gd v t ws waits Aw cw Av cv) (hb : Below w.heap.size w w') : RpM w' base g gp gd v t ws waits Aw cw Av cv :=
  ⟨h.gb, h.gpb, h.ne, h.blk.later hb, fun ht => (h.box ht).later hb, h.words.below hb, h.wait.below hb fun _ _ h => h.below hb⟩
end
end Go.Proofs.YtkddillihhjghaaGreat
