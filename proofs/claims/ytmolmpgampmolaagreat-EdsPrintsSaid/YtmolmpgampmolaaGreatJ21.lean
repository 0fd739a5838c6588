/-
  Texts joined: TypShow, TypLaws, EdsLine, EdsEq.
  Conditions: none.
-/
import Derived.Test.YtmolmpgampmolaaGreatJ04
import Derived.Test.YtmolmpgampmolaaGreatJ06
import Derived.Test.YtmolmpgampmolaaGreatJ07
import Derived.Test.YtmolmpgampmolaaGreatJ08
import Derived.Test.YtmolmpgampmolaaGreatJ12
import Derived.Test.YtmolmpgampmolaaGreatJ13
import Derived.Test.YtmolmpgampmolaaGreatJ15
import Derived.Test.YtmolmpgampmolaaGreatJ17
import Derived.Test.YtmolmpgampmolaaGreatJ20
import Derived.Deep.DeepCutAuto
import Derived.Deep.CutBlock
import Derived.ChangeKeysEq
/-
  Walks: types.Show, the reference's Show.
  Conditions: none.
-/
namespace Go.Proofs.YtmolmpgampmolaaGreat
set_option linter.unusedVariables false
set_option linter.unusedSimpArgs false
open Go.RowKit
theorem dec_range (t : Int) (l : List UInt8) : -9223372036854775808 ≤ (Ty.decS t l).1 ∧ (Ty.decS t l).1 ≤ 9223372036854775807 := by
  unfold Ty.decS
  split
  · decide
  · rename_i h0
    split
    · decide
    · rename_i h1
      split
      · decide
      · rename_i h2
        split
        · rename_i h3
          rcases kd_num t with ⟨h, _⟩ | ⟨_, e1, e2, e3⟩ | ⟨h, _⟩
          · exact absurd h h0
          · have hb := Oct.sgn_bounds (Oct.le l) (8 * (Ty.kd t).size) (by omega)
            have hp : 2 ^ (8 * (Ty.kd t).size - 1) ≤ 2 ^ 63 := Nat.pow_le_pow_right (by decide) (by omega)
            dsimp only
            omega
          · rw [h] at h3; cases h3
        · rename_i h3
          split
          · decide
          · rename_i h4
            rcases kd_num t with ⟨h, _⟩ | ⟨h, _⟩ | ⟨_, e1, e2, e3, e4, _⟩
            · exact absurd h h0
            · exact absurd h h3
            · have hp : 2 ^ (Ty.kd t).bits ≤ 2 ^ 32 := Nat.pow_le_pow_right (by decide) (by omega)
              dsimp only
              omega
theorem chk_small {t : Int} {l : List UInt8} (h : Ty.checkS t 256 l = 0) (hb : (Ty.kd t).bits = 0) : l.length ≤ 256 := by
  unfold Ty.checkS at h
  rw [hb] at h
  split at h
  · cases h
  · rw [if_neg (by decide)] at h
    split at h
    · cases h
    · rename_i h1; omega
def ShowPost (p : List UInt8 × Int) (w : World) (e : Ending) (w' : World) : Prop := e = .returned (.tuple #[.string (T p.1), .int .i64 p.2]) ∧ Below w.heap.size w w'
theorem show_mk {p : List UInt8 × Int} {w w' : World} {s : List UInt8} {x : Int} (h : p = (s, x)) (hb : Below w.heap.size w w') : ShowPost p w (.returned (.tuple #[.string (T s), .int .i64 x])) w' := by
  subst h; exact ⟨rfl, hb⟩
theorem HexT {A : Option Addr} {n c B : Nat} {l : List UInt8} (w : World) (hb : RB w B A n c l) (hn : n ≤ 100000) (hB : B ≤ w.heap.size) :
    Calls Tryz.prog 31 #[.slice A n c] w fun e w' => e = .returned (.string (T (Oct.hexS l))) ∧ Below w.heap.size w w' := Hex_any w hb hn hB
theorem RHexT {A : Option Addr} {n c B : Nat} {l : List UInt8} (w : World) (hb : RB w B A n c l) (hn : n ≤ 100000) :
    Calls Tryz.prog 37 #[.slice A n c] w fun e w' => e = .returned (.string (T (Oct.hexS l))) ∧ Below w.heap.size w w' := RHex_any w hb hn
theorem show_val (t : Int) (l : List UInt8) : Ty.showS t l = if Ty.checkS t 256 l ≠ 0 then ([], Ty.checkS t 256 l) else if 0 < (Ty.kd t).bits then (Ty.numT (Ty.decS t l).1, 0) else if t = 9 then (Ty.quo l, 0) else (35 :: Oct.hexS l, 0) := rfl
set_option maxRecDepth 100000 in
set_option maxHeartbeats 8000000 in
theorem Show_anyT {A : Option Addr} {n c B : Nat} {l : List UInt8} (t : Int) (w : World) (hb : RB w B A n c l) (hB : B ≤ w.heap.size) :
    Calls Tryz.prog 35 #[.int .i64 t, .slice A n c] w (ShowPost (Ty.showS t l) w) := by
  have hl := hb.len
  have hv := show_val t l
  have C1 := Check_any t 256 w hb hB
  have C2 := fun w => TBits_any t w
  have C3 := fun (w1 : World) (h : Below w.heap.size w w1) => Decode_any t w1 (hb.below (h.mono hB)) (Nat.le_trans hB h.size)
  have hdr := dec_range t l
  have hsm := chk_small (t := t) (l := l)
  generalize Ty.showS t l = sh at *
  generalize Ty.checkS t 256 l = ck at *
  generalize (Ty.kd t).bits = bt at *
  generalize Ty.decS t l = d at *
  obtain ⟨dv, de⟩ := d
  dsimp only at hv hdr
  replace C1 := Lib.hid C1; replace C2 := Lib.hid C2; replace C3 := Lib.hid C3
  by_cases hck : ck = 0
  · subst hck
    rw [if_neg (by simp)] at hv
    by_cases hbt : 0 < bt
    · rw [if_pos hbt] at hv
      have HV := Lib.hid hv
      have D := Lib.hid (fun w => digits_walk dv w hdr.1 hdr.2)
      clear hv hl hdr hsm
      go_enter Tryz.func35, Tryz.ntmps35
      go_wp2_with fail
      refine (C1.out).mono ?_
      rintro e w1 ⟨rfl, b1⟩
      go_wp2_with fail
      refine (C2.out _).mono ?_
      rintro e w2 ⟨rfl, b2⟩
      have d2 := below_step b1 b2 (Nat.le_refl _)
      go_wp2_with fail
      refine (C3.out _ d2).mono ?_
      rintro e w3 ⟨rfl, b3⟩
      have d3 := below_step d2 b3 (Nat.le_refl _)
      go_wp2_with fail
      refine (D.out _).mono ?_
      rintro e w4 ⟨rfl, b4⟩
      go_wp2_with fail
      go_ret2
      exact show_mk HV.out (below_step d3 b4 (Nat.le_refl _))
    · rw [if_neg hbt] at hv
      obtain rfl : bt = 0 := by omega
      have hn256 : n ≤ 256 := by rw [← hl]; exact hsm rfl rfl
      by_cases ht : t = 9
      · subst ht
        rw [if_pos rfl] at hv
        have HV := Lib.hid hv
        have Q := Lib.hid (fun (w1 : World) (h : Below w.heap.size w w1) => quote_any w1 (hb.below (h.mono hB)) (by omega) (Nat.le_trans hB h.size))
        clear hv hl hdr hsm hbt
        go_enter Tryz.func35, Tryz.ntmps35
        go_wp2_with fail
        refine (C1.out).mono ?_
        rintro e w1 ⟨rfl, b1⟩
        go_wp2_with fail
        refine (C2.out _).mono ?_
        rintro e w2 ⟨rfl, b2⟩
        have d2 := below_step b1 b2 (Nat.le_refl _)
        go_wp2_with fail
        refine (Q.out _ d2).mono ?_
        rintro e w4 ⟨rfl, b4⟩
        go_wp2_with fail
        go_ret2
        exact show_mk HV.out (below_step d2 b4 (Nat.le_refl _))
      · rw [if_neg ht] at hv
        have HV := Lib.hid hv
        have ht1 : (t == 9) = false := by rw [beq_eq_false_iff_ne]; exact ht
        have Q := Lib.hid (fun (w1 : World) (h : Below w.heap.size w w1) => HexT w1 (hb.below (h.mono hB)) (by omega) (Nat.le_trans hB h.size))
        have hcat : ∀ w, (Op.stringOp .add (⟨#[35]⟩ : ByteArray) (T (Oct.hexS l))).run Tryz.prog w = .ok (.string (T (35 :: Oct.hexS l))) w := fun w => run_T_add [35] (Oct.hexS l) (by rw [Oct.hexS_length]; simp; omega) w
        clear hv hl hdr hsm hbt ht
        go_enter Tryz.func35, Tryz.ntmps35
        go_wp2_with fail
        refine (C1.out).mono ?_
        rintro e w1 ⟨rfl, b1⟩
        go_wp2_with fail
        refine (C2.out _).mono ?_
        rintro e w2 ⟨rfl, b2⟩
        have d2 := below_step b1 b2 (Nat.le_refl _)
        go_wp2_with fail
        refine (Q.out _ d2).mono ?_
        rintro e w4 ⟨rfl, b4⟩
        go_wp2_with fail
        go_ret2
        exact show_mk HV.out (below_step d2 b4 (Nat.le_refl _))
  · rw [if_pos hck] at hv
    have HV := Lib.hid hv
    have hx : (ck != 0) = true := by simpa using hck
    clear hv hck hl hdr hsm
    go_enter Tryz.func35, Tryz.ntmps35
    go_wp2_with fail
    refine (C1.out).mono ?_
    rintro e w1 ⟨rfl, b1⟩
    go_wp2_with fail
    go_ret2
    exact show_mk HV.out b1
theorem one_cut {w : World} {B : Nat} {A : Option Addr} {n c : Nat} {l : List UInt8} (hb : RB w B A n c l) {k : Nat} (hk : k < n) :
    RB w B (if c = k then A else A.map (·.add k)) 1 (c - k) [l.getD k 0] := by
  have h := (hb.drop (k := k) (by omega)).take (k := 1) (by omega)
  have hl := hb.len
  have e : (l.drop k).take 1 = [l.getD k 0] := by
    rw [List.drop_eq_getElem_cons (by omega), List.take_succ_cons, List.take_zero]
    simp [List.getD, show k < l.length by omega]
  rw [e] at h
  exact h
theorem run_one_cut {b o n c k : Nat} (hk : k < n) (hn : n ≤ c) {z1 z2 : Int} (h1 : z1 = (k : Int)) (h2 : z2 = (k : Int) + 1) (w : World) :
    (Instr.slice 29 (.slice (some ⟨b, o, none⟩) n c) (some (.int .i64 z1)) (some (.int .i64 z2)) none).run Tryz.prog w = .ok (.slice (some ⟨b, o + k, none⟩) 1 (c - k)) w := by
  subst h1 h2
  have hT : Tryz.prog.underlying 29 = some (.slice (Tryz.prog.elem 29)) := by rw [et_elem etb]; exact etb.sl
  rw [run_slice_lh w 29 (some ⟨b, o, none⟩) n c hT .i64 .i64 (k : Int) ((k : Int) + 1) (by omega) (by omega) (by omega), et_elem etb, run_sizeOf etb]
  simp only [Result.andThen, sliced, Int.toNat_natCast, show ((k : Int) + 1).toNat = k + 1 by omega, if_neg (show ¬ c = k by omega), Option.map_some, Addr.add_lit, Nat.mul_one, Nat.add_sub_cancel_left]
set_option maxRecDepth 100000 in
set_option maxHeartbeats 8000000 in
theorem RShow_anyT {A : Option Addr} {n c B : Nat} {l : List UInt8} (t : Int) (w : World) (hb : RB w B A n c l) :
    Calls Tryz.prog 41 #[.int .i64 t, .slice A n c] w (ShowPost (Ty.showS t l) w) := by
  have hl := hb.len
  have hv := show_val t l
  have C1 := RCheckT_any t 256 w hb
  have C2 := RTBits_any t w
  have C3 := RDecode_any t w hb
  have hdr := dec_range t l
  have hsm := chk_small (t := t) (l := l)
  generalize Ty.showS t l = sh at *
  generalize Ty.checkS t 256 l = ck at *
  generalize (Ty.kd t).bits = bt at *
  generalize Ty.decS t l = d at *
  obtain ⟨dv, de⟩ := d
  dsimp only at hv hdr
  replace C1 := Lib.hid C1; replace C2 := Lib.hid C2; replace C3 := Lib.hid C3
  by_cases hck : ck = 0
  · subst hck
    rw [if_neg (by simp)] at hv
    by_cases hbt : 0 < bt
    · rw [if_pos hbt] at hv
      have HV := Lib.hid hv
      have D := Lib.hid (RNumber_any dv w hdr.1 hdr.2)
      clear hv hl hdr hsm
      go_enter Tryz.func41, Tryz.ntmps41
      go_wp2_with fail
      refine (C1.out).mono ?_
      rintro e _ ⟨rfl, rfl⟩
      go_wp2_with fail
      refine (C2.out).mono ?_
      rintro e _ ⟨rfl, rfl⟩
      go_wp2_with fail
      refine (C3.out).mono ?_
      rintro e _ ⟨rfl, rfl⟩
      go_wp2_with fail
      refine (D.out).mono ?_
      rintro e _ ⟨rfl, rfl⟩
      go_wp2_with fail
      go_ret2
      exact show_mk HV.out (Below.refl _ _)
    · rw [if_neg hbt] at hv
      obtain rfl : bt = 0 := by omega
      have hn256 : n ≤ 256 := by rw [← hl]; exact hsm rfl rfl
      by_cases ht : t = 9
      · subst ht
        rw [if_pos rfl] at hv
        have HV := Lib.hid hv
        have HL := Lib.hid hl
        clear hv hl hdr hsm hbt
        go_enter Tryz.func41, Tryz.ntmps41
        go_wp2_with fail
        refine (C1.out).mono ?_
        rintro e _ ⟨rfl, rfl⟩
        go_wp2_with fail
        refine (C2.out).mono ?_
        rintro e _ ⟨rfl, rfl⟩
        go_wp2_with fail
        go_loop [9, 10] (fun v i => ∃ k : Nat, k ≤ n ∧ i = .int .i64 k ∧ v = .string (T (Ty.esc (l.take k)))) (fun _ i => n - (intOf i).toNat)
        case atStart => exact ⟨0, by omega, rfl, rfl⟩
        case round =>
          obtain ⟨k, hk, rfl, rfl⟩ := hrel
          have hel : (Ty.esc (l.take k)).length ≤ 512 := by
            have h1 := esc_len (l.take k)
            rw [List.length_take] at h1
            omega
          by_cases hlt : k < n
          · have hcut := one_cut hb hlt
            have hcap := hb.le
            have e3 := convb hcut
            obtain ⟨b, o, rfl, hbB, hc⟩ := hb.at_ (show 0 < n by omega)
            have hck := hc k hlt
            have hx := byte_lt (l.getD k 0)
            have hes := esc_snoc (l := l) (k := k) (by have := HL.out; omega)
            generalize Ty.esc (l.take k) = E at *
            generalize l.getD k 0 = x at *
            rw [if_neg (show ¬ c = k by omega)] at e3
            simp only [Option.map_some, Addr.add_lit] at e3
            have HES := Lib.hid hes
            have hsl := fun w => run_one_cut (b := b) (o := o) (c := c) hlt hcap (z1 := (k : Int)) (z2 := (k : Int) + 1) rfl rfl w
            clear hc hes hcut
            by_cases hmk : Ty.mark x = true
            · have hes2 := HES.out
              rw [if_pos hmk] at hes2
              have HE2 := Lib.hid hes2
              have h1 : ∀ w, (Op.stringOp .add (T E) (⟨#[92]⟩ : ByteArray)).run Tryz.prog w = .ok (.string (T (E ++ [92]))) w := fun w => run_T_add _ [92] (by simp; omega) w
              have h2 : ∀ w, (Op.stringOp .add (T (E ++ [92])) (T [x])).run Tryz.prog w = .ok (.string (T (E ++ [92] ++ [x]))) w := fun w => run_T_add _ [x] (by simp; omega) w
              have e3' : (convert 29 9 (.slice (some ⟨b, o + k, none⟩) 1 (c - k))).run Tryz.prog w = .ok (.string (T [x])) w := e3
              clear hes2 e3
              rcases sign_cases x with ⟨hx1, _, e1⟩ | ⟨hx1, _, e1, e2⟩ | ⟨hm, _⟩
              · clear hx1 hmk
                go_wp2_with fail
                go_round
                case rel => exact ⟨k + 1, by omega, by go_num, by rw [HE2.out]⟩
                case measure => simp [intOf] <;> omega
              · clear hx1 hmk
                go_wp2_with fail
                go_round
                case rel => exact ⟨k + 1, by omega, by go_num, by rw [HE2.out]⟩
                case measure => simp [intOf] <;> omega
              · rw [hm] at hmk; cases hmk
            · have hes2 := HES.out
              rw [if_neg hmk] at hes2
              have HE2 := Lib.hid hes2
              have h2 : ∀ w, (Op.stringOp .add (T E) (T [x])).run Tryz.prog w = .ok (.string (T (E ++ [x]))) w := fun w => run_T_add _ [x] (by simp; omega) w
              have e3' : (convert 29 9 (.slice (some ⟨b, o + k, none⟩) 1 (c - k))).run Tryz.prog w = .ok (.string (T [x])) w := e3
              clear hes2 e3
              rcases sign_cases x with ⟨_, hm, _⟩ | ⟨_, hm, _⟩ | ⟨hm, e1, e2⟩
              · exact absurd hm hmk
              · exact absurd hm hmk
              · clear hmk hm
                go_wp2_with fail
                go_round
                case rel => exact ⟨k + 1, by omega, by go_num, by rw [HE2.out]⟩
                case measure => simp [intOf] <;> omega
          · obtain rfl : k = n := by omega
            have htk : l.take k = l := List.take_of_length_le (by have := HL.out; omega)
            have h1 : ∀ w, (Op.stringOp .add (⟨#[34]⟩ : ByteArray) (T (Ty.esc (l.take k)))).run Tryz.prog w = .ok (.string (T (34 :: Ty.esc (l.take k)))) w := fun w => run_T_add [34] _ (by simp; omega) w
            have h2 : ∀ w, (Op.stringOp .add (T (34 :: Ty.esc (l.take k))) (⟨#[34]⟩ : ByteArray)).run Tryz.prog w = .ok (.string (T ((34 :: Ty.esc (l.take k)) ++ [34]))) w := fun w => run_T_add _ [34] (by simp; omega) w
            rw [htk] at h1 h2 ⊢
            clear htk
            go_wp2_with fail
            go_ret2
            exact show_mk HV.out (Below.refl _ _)
      · rw [if_neg ht] at hv
        have HV := Lib.hid hv
        have ht1 : (t != 9) = true := by rw [bne_iff_ne]; exact ht
        have Q := Lib.hid (RHexT w hb (by omega))
        have hcat : ∀ w, (Op.stringOp .add (⟨#[35]⟩ : ByteArray) (T (Oct.hexS l))).run Tryz.prog w = .ok (.string (T (35 :: Oct.hexS l))) w := fun w => run_T_add [35] (Oct.hexS l) (by rw [Oct.hexS_length]; simp; omega) w
        clear hv hl hdr hsm hbt ht
        go_enter Tryz.func41, Tryz.ntmps41
        go_wp2_with fail
        refine (C1.out).mono ?_
        rintro e _ ⟨rfl, rfl⟩
        go_wp2_with fail
        refine (C2.out).mono ?_
        rintro e _ ⟨rfl, rfl⟩
        go_wp2_with fail
        refine (Q.out).mono ?_
        rintro e w4 ⟨rfl, b4⟩
        go_wp2_with fail
        go_ret2
        exact show_mk HV.out b4
  · rw [if_pos hck] at hv
    have HV := Lib.hid hv
    have hx : (ck != 0) = true := by simpa using hck
    clear hv hck hl hdr hsm
    go_enter Tryz.func41, Tryz.ntmps41
    go_wp2_with fail
    refine (C1.out).mono ?_
    rintro e _ ⟨rfl, rfl⟩
    go_wp2_with fail
    go_ret2
    exact show_mk HV.out (Below.refl _ _)
end Go.Proofs.YtmolmpgampmolaaGreat
/-
  Layer 5, plain laws: numbers and texts there and back.
  Conditions: none.
-/
namespace Go.Proofs.YtmolmpgampmolaaGreat
set_option linter.unusedVariables false
set_option linter.unusedSimpArgs false
theorem chk_num {t most : Int} {b : List UInt8} (hn : (Ty.kd t).name ≠ []) (hb : 0 < (Ty.kd t).bits) : Ty.checkS t most b = (Ty.decS t b).2 := by
  rw [chk_val, if_neg hn, if_pos hb]
theorem num_named {t : Int} (hb : 0 < (Ty.kd t).bits) : (Ty.kd t).name ≠ [] := by
  rcases kd_named t with h | h
  · exact h
  · rw [h] at hb; exact absurd hb (by decide)
theorem parse_show {t : Int} {b x : List UInt8} (h : Ty.showS t b = (x, 0)) : Ty.parseS t x = (b, 0) := by
  rw [show_val] at h
  split at h
  · rename_i h1
    simp only [Prod.mk.injEq] at h
    exact absurd h.2 h1
  · rename_i h1
    have hck : Ty.checkS t 256 b = 0 := by simpa using h1
    have hnm : (Ty.kd t).name ≠ [] := by
      intro e
      rw [chk_val, if_pos e] at hck
      cases hck
    split at h
    · rename_i hb
      simp only [Prod.mk.injEq, and_true] at h
      rw [chk_num hnm hb] at hck
      have hd : Ty.decS t b = ((Ty.decS t b).1, 0) := by rw [← hck]
      have hr := dec_range t b
      rw [parse_val, if_neg hnm, if_pos hb, ← h, Ty.parN_numT _ hr.1 hr.2, if_neg (by simp)]
      exact enc_dec hd
    · rename_i hb
      split at h
      · rename_i ht
        simp only [Prod.mk.injEq, and_true] at h
        subst ht
        have hraw : Ty.rawS 9 x = (b, 0) := by rw [raw_nine, ← h, Ty.unq_quo]
        rw [parse_val, if_neg hnm, if_neg hb, hraw, if_neg (by simp), if_neg (by rw [hck]; simp)]
      · rename_i ht
        simp only [Prod.mk.injEq, and_true] at h
        have hraw : Ty.rawS t x = (b, 0) := by
          rw [← h, raw_hex ht]
          unfold Oct.unhexS
          rw [Oct.pairs_hex]
        rw [parse_val, if_neg hnm, if_neg hb, hraw, if_neg (by simp), if_neg (by rw [hck]; simp)]
theorem show_parse {t : Int} {s y : List UInt8} (h : Ty.parseS t s = (y, 0)) : Ty.showS t y = (s, 0) ∧ Ty.checkS t 256 y = 0 := by
  rw [parse_val] at h
  split at h
  · simp at h
  · rename_i hnm
    split at h
    · rename_i hb
      split at h
      · rename_i h1
        simp only [Prod.mk.injEq] at h
        exact absurd h.2 h1
      · rename_i h1
        have hp : Ty.parN s = ((Ty.parN s).1, 0) := by
          have : (Ty.parN s).2 = 0 := by simpa using h1
          rw [← this]
        obtain ⟨h2, _⟩ := dec_enc h
        have hck : Ty.checkS t 256 y = 0 := by rw [chk_num hnm hb, h2]
        refine ⟨?_, hck⟩
        rw [show_val, if_neg (by rw [hck]; simp), if_pos hb, h2, (Ty.numT_parN hp).1]
    · rename_i hb
      split at h
      · rename_i h1
        simp only [Prod.mk.injEq] at h
        exact absurd h.2 h1
      · rename_i h1
        split at h
        · rename_i h2
          simp only [Prod.mk.injEq] at h
          exact absurd h.2 h2
        · rename_i h2
          simp only [Prod.mk.injEq, and_true] at h
          have hraw : Ty.rawS t s = (y, 0) := by
            have : (Ty.rawS t s).2 = 0 := by simpa using h1
            rw [← this, ← h]
          rw [h] at h2
          have hck : Ty.checkS t 256 y = 0 := by simpa using h2
          refine ⟨?_, hck⟩
          rw [show_val, if_neg (by rw [hck]; simp), if_neg hb]
          by_cases ht : t = 9
          · subst ht
            rw [if_pos rfl]
            rw [raw_nine] at hraw
            cases hu : Ty.unq s with
            | none => rw [hu] at hraw; simp at hraw
            | some z =>
              rw [hu] at hraw
              simp only [Prod.mk.injEq, and_true] at hraw
              subst hraw
              rw [Ty.quo_unq hu]
          · rw [if_neg ht]
            cases s with
            | nil => rw [raw_no ht (.inr rfl)] at hraw; simp at hraw
            | cons a r =>
              by_cases ha : a = 35
              · subst ha
                rw [raw_hex ht] at hraw
                unfold Oct.unhexS at hraw
                cases hp : Oct.pairs r with
                | none => rw [hp] at hraw; simp at hraw
                | some z =>
                  rw [hp] at hraw
                  simp only [Prod.mk.injEq, and_true] at hraw
                  subst hraw
                  rw [Oct.hex_pairs _ _ hp]
              · rw [raw_no (s := a :: r) ht (.inl ha)] at hraw; simp at hraw
theorem show_len {t : Int} {b : List UInt8} : (Ty.showS t b).1.length ≤ 600 := by
  rw [show_val]
  split
  · simp
  · rename_i h1
    have hck : Ty.checkS t 256 b = 0 := by simpa using h1
    split
    · have := Ty.numT_len (Ty.decS t b).1
      dsimp only
      omega
    · rename_i hb
      have hs := chk_small hck (by omega)
      split
      · have := quo_len b
        dsimp only
        omega
      · dsimp only
        rw [List.length_cons, Oct.hexS_length]
        omega
end Go.Proofs.YtmolmpgampmolaaGreat
/-
  Walk: digits and Line of layer 17.
  Conditions: none.
-/
namespace Go.Proofs.YtmolmpgampmolaaGreat
set_option linter.unusedVariables false
set_option linter.unusedSimpArgs false
open Go.RowKit Go.Sort
theorem numT_len (n : Int) : (Ty.numT n).length ≤ 21 := by
  unfold Ty.numT
  have := Ty.decF_len 20 n.natAbs
  split
  · simp only [List.length_cons]; omega
  · omega
theorem lim_int (t : Int) : -9223372036854775808 ≤ (Ty.limS t).1 ∧ (Ty.limS t).1 ≤ 0 ∧ 0 ≤ (Ty.limS t).2.1 ∧ (Ty.limS t).2.1 ≤ 9223372036854775807 := by
  rcases Ty.kd_cases t with h | ⟨_, h⟩
  · rcases h with rfl | rfl | rfl | rfl | rfl | rfl | rfl | rfl | rfl | rfl | rfl <;> decide
  · unfold Ty.limS
    rw [h]
    decide
theorem digit_show {n : Int} (h1 : -9223372036854775808 ≤ n) (h2 : n ≤ 9223372036854775807) : Ty.showS 21 (Ty.encS 21 n).1 = (Ty.numT n, 0) := by
  have hl : Ty.limS 21 = (-9223372036854775808, 9223372036854775807, true) := by decide
  have he : Ty.encS 21 n = ((Ty.encS 21 n).1, 0) := by
    rw [enc_ok (by rw [hl]) (by rw [hl]; dsimp only; omega)]
  have hd := (dec_enc he).1
  have hb : 0 < (Ty.kd 21).bits := by decide
  rw [show_val, chk_num (num_named hb) hb, hd, if_neg (by simp), if_pos hb]
theorem edigits_any (n : Int) (w : World) (h1 : -9223372036854775808 ≤ n) (h2 : n ≤ 9223372036854775807) : Calls Tryz.prog 32 #[.int .i64 n] w fun e w' => e = .returned (.string (T (Ty.numT n))) ∧ Below w.heap.size w w' := by
  have EN := Encode_any 21 n w h1 h2
  have hs := digit_show h1 h2
  unfold BP at EN
  generalize Ty.encS 21 n = p at *
  obtain ⟨b, x⟩ := p
  dsimp only at EN hs
  have SH := fun (w1 : World) (A : Option Addr) (c : Nat) (hb : RB w1 w1.heap.size A b.length c b) => Show_anyT 21 w1 hb (Nat.le_refl _)
  rw [hs] at SH
  replace SH := Lib.hid SH
  replace EN := Lib.hid EN
  clear hs h1 h2
  go_enter Tryz.func32, Tryz.ntmps32
  go_wp2_with fail
  refine (EN.out).mono ?_
  rintro e w1 ⟨A, c, rfl, o1, b1⟩
  have S1 := Lib.hid (SH.out w1 A c o1.rb)
  go_wp2_with fail
  refine (S1.out).mono ?_
  rintro e w2 ⟨rfl, b2⟩
  go_wp2_with fail
  go_ret
  exact ⟨rfl, below_step b1 b2 (Nat.le_refl _)⟩
end Go.Proofs.YtmolmpgampmolaaGreat
/-
  '==' of pairs.
  Conditions: none.
-/
namespace Go.Proofs.YtmolmpgampmolaaGreat
set_option linter.unusedVariables false
set_option linter.unusedSimpArgs false
open Go.RowKit Go
theorem eq_pair (a b c d : Int) (w : World) : (Op.equalIn 10000 74 (.agg #[.int .i64 a, .int .i64 b]) (.agg #[.int .i64 c, .int .i64 d])).run Tryz.prog w = .ok (a == c && b == d) w := by
  obtain ⟨i, hi⟩ : ∃ i, (Tryz.prog).info? 2 = some i := Option.isSome_iff_exists.1 (by kernel_rfl)
  have hu : Program.underlying Tryz.prog 74 = some (.array 2 2) := Tryz.underlying74
  have hc : Program.cellsOf Tryz.prog 2 = 1 := by kernel_rfl
  have hp1 : ∀ (x y : Int) w, (part 2 #[Value.int .i64 x, Value.int .i64 y] 0).run Tryz.prog w = .ok (.int .i64 x) w := fun x y w => by kernel_rfl
  have hp2 : ∀ (x y : Int) w, (part 2 #[Value.int .i64 x, Value.int .i64 y] 1).run Tryz.prog w = .ok (.int .i64 y) w := fun x y w => by kernel_rfl
  have hq : ∀ (x y : Int) w, (Op.equalIn 9999 2 (.int .i64 x) (.int .i64 y)).run Tryz.prog w = .ok (x == y) w := fun x y w => run_equalIn_int w 9998 2 .i64 .i64 x y Tryz.underlying2
  rw [show (10000 : Nat) = 9999 + 1 from rfl, run_equalIn_array w 9999 _ _ hu hi, hc, show List.range 2 = [0, 1] from rfl]
  simp only [Op.eqItems, Sem.run_bind, Nat.zero_mul, Nat.one_mul, Nat.mul_one, hp1, hp2, hq, Result.andThen_ok]
  cases hac : (a == c) <;> cases hbd : (b == d) <;> simp [hp1, hp2, hq, hbd]
end Go.Proofs.YtmolmpgampmolaaGreat
