/-
  Walks: types.Show, the reference's Show.
  Conditions: none.
-/
import Derived.Test.YtfmfcgpofkccgaaTypChk
import Derived.Test.YtfmfcgpofkccgaaTypNum
import Derived.Test.YtfmfcgpofkccgaaTypUnw
import Derived.Test.YtfmfcgpofkccgaaOctHex
import Derived.Test.YtfmfcgpofkccgaaOctHexR
import Derived.Test.YtfmfcgpofkccgaaFoot
namespace Go.Proofs.Ytfmfcgpofkccgaa
set_option linter.unusedVariables false
set_option linter.unusedSimpArgs false
open Go.RowKit
theorem dec_range (t : Int) (l : List UInt8) : -9223372036854775808 ≤ (Ty.decS t l).1 ∧ (Ty.decS t l).1 ≤ 9223372036854775807 := by
  unfold Ty.decS
  split
  · decide
  · rename_i h0
    split
    · decide
    · rename_i h1
      split
      · decide
      · rename_i h2
        split
        · rename_i h3
          rcases kd_num t with ⟨h, _⟩ | ⟨_, e1, e2, e3⟩ | ⟨h, _⟩
          · exact absurd h h0
          · have hb := Oct.sgn_bounds (Oct.le l) (8 * (Ty.kd t).size) (by omega)
            have hp : 2 ^ (8 * (Ty.kd t).size - 1) ≤ 2 ^ 63 := Nat.pow_le_pow_right (by decide) (by omega)
            dsimp only
            omega
          · rw [h] at h3; cases h3
        · rename_i h3
          split
          · decide
          · rename_i h4
            rcases kd_num t with ⟨h, _⟩ | ⟨h, _⟩ | ⟨_, e1, e2, e3, e4, _⟩
            · exact absurd h h0
            · exact absurd h h3
            · have hp : 2 ^ (Ty.kd t).bits ≤ 2 ^ 32 := Nat.pow_le_pow_right (by decide) (by omega)
              dsimp only
              omega
theorem chk_small {t : Int} {l : List UInt8} (h : Ty.checkS t 256 l = 0) (hb : (Ty.kd t).bits = 0) : l.length ≤ 256 := by
  unfold Ty.checkS at h
  rw [hb] at h
  split at h
  · cases h
  · rw [if_neg (by decide)] at h
    split at h
    · cases h
    · rename_i h1; omega
def ShowPost (p : List UInt8 × Int) (w : World) (e : Ending) (w' : World) : Prop := e = .returned (.tuple #[.string (T p.1), .int .i64 p.2]) ∧ Below w.heap.size w w'
theorem show_mk {p : List UInt8 × Int} {w w' : World} {s : List UInt8} {x : Int} (h : p = (s, x)) (hb : Below w.heap.size w w') : ShowPost p w (.returned (.tuple #[.string (T s), .int .i64 x])) w' := by
  subst h; exact ⟨rfl, hb⟩
theorem HexT {A : Option Addr} {n c B : Nat} {l : List UInt8} (w : World) (hb : RB w B A n c l) (hn : n ≤ 100000) (hB : B ≤ w.heap.size) :
    Calls Try.prog 49 #[.slice A n c] w fun e w' => e = .returned (.string (T (Oct.hexS l))) ∧ Below w.heap.size w w' := Hex_any w hb hn hB
theorem RHexT {A : Option Addr} {n c B : Nat} {l : List UInt8} (w : World) (hb : RB w B A n c l) (hn : n ≤ 100000) :
    Calls Try.prog 51 #[.slice A n c] w fun e w' => e = .returned (.string (T (Oct.hexS l))) ∧ Below w.heap.size w w' := RHex_any w hb hn
theorem show_val (t : Int) (l : List UInt8) : Ty.showS t l = if Ty.checkS t 256 l ≠ 0 then ([], Ty.checkS t 256 l) else if 0 < (Ty.kd t).bits then (Ty.numT (Ty.decS t l).1, 0) else if t = 9 then (Ty.quo l, 0) else (35 :: Oct.hexS l, 0) := rfl
set_option maxRecDepth 100000 in
set_option maxHeartbeats 8000000 in
theorem Show_anyT {A : Option Addr} {n c B : Nat} {l : List UInt8} (t : Int) (w : World) (hb : RB w B A n c l) (hB : B ≤ w.heap.size) :
    Calls Try.prog 18 #[.int .i64 t, .slice A n c] w (ShowPost (Ty.showS t l) w) := by
  have hl := hb.len
  have hv := show_val t l
  have C1 := Check_any t 256 w hb hB
  have C2 := fun w => TBits_any t w
  have C3 := fun (w1 : World) (h : Below w.heap.size w w1) => Decode_any t w1 (hb.below (h.mono hB)) (Nat.le_trans hB h.size)
  have hdr := dec_range t l
  have hsm := chk_small (t := t) (l := l)
  generalize Ty.showS t l = sh at *
  generalize Ty.checkS t 256 l = ck at *
  generalize (Ty.kd t).bits = bt at *
  generalize Ty.decS t l = d at *
  obtain ⟨dv, de⟩ := d
  dsimp only at hv hdr
  replace C1 := Lib.hid C1; replace C2 := Lib.hid C2; replace C3 := Lib.hid C3
  by_cases hck : ck = 0
  · subst hck
    rw [if_neg (by simp)] at hv
    by_cases hbt : 0 < bt
    · rw [if_pos hbt] at hv
      have HV := Lib.hid hv
      have D := Lib.hid (fun w => digits_walk dv w hdr.1 hdr.2)
      clear hv hl hdr hsm
      go_enter Try.func18, Try.ntmps18
      go_wp2_with fail
      refine (C1.out).mono ?_
      rintro e w1 ⟨rfl, b1⟩
      go_wp2_with fail
      refine (C2.out _).mono ?_
      rintro e w2 ⟨rfl, b2⟩
      have d2 := below_step b1 b2 (Nat.le_refl _)
      go_wp2_with fail
      refine (C3.out _ d2).mono ?_
      rintro e w3 ⟨rfl, b3⟩
      have d3 := below_step d2 b3 (Nat.le_refl _)
      go_wp2_with fail
      refine (D.out _).mono ?_
      rintro e w4 ⟨rfl, b4⟩
      go_wp2_with fail
      go_ret2
      exact show_mk HV.out (below_step d3 b4 (Nat.le_refl _))
    · rw [if_neg hbt] at hv
      obtain rfl : bt = 0 := by omega
      have hn256 : n ≤ 256 := by rw [← hl]; exact hsm rfl rfl
      by_cases ht : t = 9
      · subst ht
        rw [if_pos rfl] at hv
        have HV := Lib.hid hv
        have Q := Lib.hid (fun (w1 : World) (h : Below w.heap.size w w1) => quote_any w1 (hb.below (h.mono hB)) (by omega) (Nat.le_trans hB h.size))
        clear hv hl hdr hsm hbt
        go_enter Try.func18, Try.ntmps18
        go_wp2_with fail
        refine (C1.out).mono ?_
        rintro e w1 ⟨rfl, b1⟩
        go_wp2_with fail
        refine (C2.out _).mono ?_
        rintro e w2 ⟨rfl, b2⟩
        have d2 := below_step b1 b2 (Nat.le_refl _)
        go_wp2_with fail
        refine (Q.out _ d2).mono ?_
        rintro e w4 ⟨rfl, b4⟩
        go_wp2_with fail
        go_ret2
        exact show_mk HV.out (below_step d2 b4 (Nat.le_refl _))
      · rw [if_neg ht] at hv
        have HV := Lib.hid hv
        have ht1 : (t == 9) = false := by rw [beq_eq_false_iff_ne]; exact ht
        have Q := Lib.hid (fun (w1 : World) (h : Below w.heap.size w w1) => HexT w1 (hb.below (h.mono hB)) (by omega) (Nat.le_trans hB h.size))
        have hcat : ∀ w, (Op.stringOp .add (⟨#[35]⟩ : ByteArray) (T (Oct.hexS l))).run Try.prog w = .ok (.string (T (35 :: Oct.hexS l))) w := fun w => run_T_add [35] (Oct.hexS l) (by rw [Oct.hexS_length]; simp; omega) w
        clear hv hl hdr hsm hbt ht
        go_enter Try.func18, Try.ntmps18
        go_wp2_with fail
        refine (C1.out).mono ?_
        rintro e w1 ⟨rfl, b1⟩
        go_wp2_with fail
        refine (C2.out _).mono ?_
        rintro e w2 ⟨rfl, b2⟩
        have d2 := below_step b1 b2 (Nat.le_refl _)
        go_wp2_with fail
        refine (Q.out _ d2).mono ?_
        rintro e w4 ⟨rfl, b4⟩
        go_wp2_with fail
        go_ret2
        exact show_mk HV.out (below_step d2 b4 (Nat.le_refl _))
  · rw [if_pos hck] at hv
    have HV := Lib.hid hv
    have hx : (ck != 0) = true := by simpa using hck
    clear hv hck hl hdr hsm
    go_enter Try.func18, Try.ntmps18
    go_wp2_with fail
    refine (C1.out).mono ?_
    rintro e w1 ⟨rfl, b1⟩
    go_wp2_with fail
    go_ret2
    exact show_mk HV.out b1
theorem one_cut {w : World} {B : Nat} {A : Option Addr} {n c : Nat} {l : List UInt8} (hb : RB w B A n c l) {k : Nat} (hk : k < n) :
    RB w B (if c = k then A else A.map (·.add k)) 1 (c - k) [l.getD k 0] := by
  have h := (hb.drop (k := k) (by omega)).take (k := 1) (by omega)
  have hl := hb.len
  have e : (l.drop k).take 1 = [l.getD k 0] := by
    rw [List.drop_eq_getElem_cons (by omega), List.take_succ_cons, List.take_zero]
    simp [List.getD, show k < l.length by omega]
  rw [e] at h
  exact h
theorem run_one_cut {b o n c k : Nat} (hk : k < n) (hn : n ≤ c) {z1 z2 : Int} (h1 : z1 = (k : Int)) (h2 : z2 = (k : Int) + 1) (w : World) :
    (Instr.slice 22 (.slice (some ⟨b, o, none⟩) n c) (some (.int .i64 z1)) (some (.int .i64 z2)) none).run Try.prog w = .ok (.slice (some ⟨b, o + k, none⟩) 1 (c - k)) w := by
  subst h1 h2
  have hT : Try.prog.underlying 22 = some (.slice (Try.prog.elem 22)) := by rw [et_elem etb]; exact etb.sl
  rw [run_slice_lh w 22 (some ⟨b, o, none⟩) n c hT .i64 .i64 (k : Int) ((k : Int) + 1) (by omega) (by omega) (by omega), et_elem etb, run_sizeOf etb]
  simp only [Result.andThen, sliced, Int.toNat_natCast, show ((k : Int) + 1).toNat = k + 1 by omega, if_neg (show ¬ c = k by omega), Option.map_some, Addr.add_lit, Nat.mul_one, Nat.add_sub_cancel_left]
set_option maxRecDepth 100000 in
set_option maxHeartbeats 8000000 in
theorem RShow_anyT {A : Option Addr} {n c B : Nat} {l : List UInt8} (t : Int) (w : World) (hb : RB w B A n c l) :
    Calls Try.prog 19 #[.int .i64 t, .slice A n c] w (ShowPost (Ty.showS t l) w) := by
  have hl := hb.len
  have hv := show_val t l
  have C1 := RCheckT_any t 256 w hb
  have C2 := RTBits_any t w
  have C3 := RDecode_any t w hb
  have hdr := dec_range t l
  have hsm := chk_small (t := t) (l := l)
  generalize Ty.showS t l = sh at *
  generalize Ty.checkS t 256 l = ck at *
  generalize (Ty.kd t).bits = bt at *
  generalize Ty.decS t l = d at *
  obtain ⟨dv, de⟩ := d
  dsimp only at hv hdr
  replace C1 := Lib.hid C1; replace C2 := Lib.hid C2; replace C3 := Lib.hid C3
  by_cases hck : ck = 0
  · subst hck
    rw [if_neg (by simp)] at hv
    by_cases hbt : 0 < bt
    · rw [if_pos hbt] at hv
      have HV := Lib.hid hv
      have D := Lib.hid (RNumber_any dv w hdr.1 hdr.2)
      clear hv hl hdr hsm
      go_enter Try.func19, Try.ntmps19
      go_wp2_with fail
      refine (C1.out).mono ?_
      rintro e _ ⟨rfl, rfl⟩
      go_wp2_with fail
      refine (C2.out).mono ?_
      rintro e _ ⟨rfl, rfl⟩
      go_wp2_with fail
      refine (C3.out).mono ?_
      rintro e _ ⟨rfl, rfl⟩
      go_wp2_with fail
      refine (D.out).mono ?_
      rintro e _ ⟨rfl, rfl⟩
      go_wp2_with fail
      go_ret2
      exact show_mk HV.out (Below.refl _ _)
    · rw [if_neg hbt] at hv
      obtain rfl : bt = 0 := by omega
      have hn256 : n ≤ 256 := by rw [← hl]; exact hsm rfl rfl
      by_cases ht : t = 9
      · subst ht
        rw [if_pos rfl] at hv
        have HV := Lib.hid hv
        have HL := Lib.hid hl
        clear hv hl hdr hsm hbt
        go_enter Try.func19, Try.ntmps19
        go_wp2_with fail
        refine (C1.out).mono ?_
        rintro e _ ⟨rfl, rfl⟩
        go_wp2_with fail
        refine (C2.out).mono ?_
        rintro e _ ⟨rfl, rfl⟩
        go_wp2_with fail
        go_loop [9, 10] (fun v i => ∃ k : Nat, k ≤ n ∧ i = .int .i64 k ∧ v = .string (T (Ty.esc (l.take k)))) (fun _ i => n - (intOf i).toNat)
        case atStart => exact ⟨0, by omega, rfl, rfl⟩
        case round =>
          obtain ⟨k, hk, rfl, rfl⟩ := hrel
          have hel : (Ty.esc (l.take k)).length ≤ 512 := by
            have h1 := esc_len (l.take k)
            rw [List.length_take] at h1
            omega
          by_cases hlt : k < n
          · have hcut := one_cut hb hlt
            have hcap := hb.le
            have e3 := convb hcut
            obtain ⟨b, o, rfl, hbB, hc⟩ := hb.at_ (show 0 < n by omega)
            have hck := hc k hlt
            have hx := byte_lt (l.getD k 0)
            have hes := esc_snoc (l := l) (k := k) (by have := HL.out; omega)
            generalize Ty.esc (l.take k) = E at *
            generalize l.getD k 0 = x at *
            rw [if_neg (show ¬ c = k by omega)] at e3
            simp only [Option.map_some, Addr.add_lit] at e3
            have HES := Lib.hid hes
            have hsl := fun w => run_one_cut (b := b) (o := o) (c := c) hlt hcap (z1 := (k : Int)) (z2 := (k : Int) + 1) rfl rfl w
            clear hc hes hcut
            by_cases hmk : Ty.mark x = true
            · have hes2 := HES.out
              rw [if_pos hmk] at hes2
              have HE2 := Lib.hid hes2
              have h1 : ∀ w, (Op.stringOp .add (T E) (⟨#[92]⟩ : ByteArray)).run Try.prog w = .ok (.string (T (E ++ [92]))) w := fun w => run_T_add _ [92] (by simp; omega) w
              have h2 : ∀ w, (Op.stringOp .add (T (E ++ [92])) (T [x])).run Try.prog w = .ok (.string (T (E ++ [92] ++ [x]))) w := fun w => run_T_add _ [x] (by simp; omega) w
              have e3' : (convert 22 9 (.slice (some ⟨b, o + k, none⟩) 1 (c - k))).run Try.prog w = .ok (.string (T [x])) w := e3
              clear hes2 e3
              rcases sign_cases x with ⟨hx1, _, e1⟩ | ⟨hx1, _, e1, e2⟩ | ⟨hm, _⟩
              · clear hx1 hmk
                go_wp2_with fail
                go_round
                case rel => exact ⟨k + 1, by omega, by go_num, by rw [HE2.out]⟩
                case measure => simp [intOf] <;> omega
              · clear hx1 hmk
                go_wp2_with fail
                go_round
                case rel => exact ⟨k + 1, by omega, by go_num, by rw [HE2.out]⟩
                case measure => simp [intOf] <;> omega
              · rw [hm] at hmk; cases hmk
            · have hes2 := HES.out
              rw [if_neg hmk] at hes2
              have HE2 := Lib.hid hes2
              have h2 : ∀ w, (Op.stringOp .add (T E) (T [x])).run Try.prog w = .ok (.string (T (E ++ [x]))) w := fun w => run_T_add _ [x] (by simp; omega) w
              have e3' : (convert 22 9 (.slice (some ⟨b, o + k, none⟩) 1 (c - k))).run Try.prog w = .ok (.string (T [x])) w := e3
              clear hes2 e3
              rcases sign_cases x with ⟨_, hm, _⟩ | ⟨_, hm, _⟩ | ⟨hm, e1, e2⟩
              · exact absurd hm hmk
              · exact absurd hm hmk
              · clear hmk hm
                go_wp2_with fail
                go_round
                case rel => exact ⟨k + 1, by omega, by go_num, by rw [HE2.out]⟩
                case measure => simp [intOf] <;> omega
          · obtain rfl : k = n := by omega
            have htk : l.take k = l := List.take_of_length_le (by have := HL.out; omega)
            have h1 : ∀ w, (Op.stringOp .add (⟨#[34]⟩ : ByteArray) (T (Ty.esc (l.take k)))).run Try.prog w = .ok (.string (T (34 :: Ty.esc (l.take k)))) w := fun w => run_T_add [34] _ (by simp; omega) w
            have h2 : ∀ w, (Op.stringOp .add (T (34 :: Ty.esc (l.take k))) (⟨#[34]⟩ : ByteArray)).run Try.prog w = .ok (.string (T ((34 :: Ty.esc (l.take k)) ++ [34]))) w := fun w => run_T_add _ [34] (by simp; omega) w
            rw [htk] at h1 h2 ⊢
            clear htk
            go_wp2_with fail
            go_ret2
            exact show_mk HV.out (Below.refl _ _)
      · rw [if_neg ht] at hv
        have HV := Lib.hid hv
        have ht1 : (t != 9) = true := by rw [bne_iff_ne]; exact ht
        have Q := Lib.hid (RHexT w hb (by omega))
        have hcat : ∀ w, (Op.stringOp .add (⟨#[35]⟩ : ByteArray) (T (Oct.hexS l))).run Try.prog w = .ok (.string (T (35 :: Oct.hexS l))) w := fun w => run_T_add [35] (Oct.hexS l) (by rw [Oct.hexS_length]; simp; omega) w
        clear hv hl hdr hsm hbt ht
        go_enter Try.func19, Try.ntmps19
        go_wp2_with fail
        refine (C1.out).mono ?_
        rintro e _ ⟨rfl, rfl⟩
        go_wp2_with fail
        refine (C2.out).mono ?_
        rintro e _ ⟨rfl, rfl⟩
        go_wp2_with fail
        refine (Q.out).mono ?_
        rintro e w4 ⟨rfl, b4⟩
        go_wp2_with fail
        go_ret2
        exact show_mk HV.out b4
  · rw [if_pos hck] at hv
    have HV := Lib.hid hv
    have hx : (ck != 0) = true := by simpa using hck
    clear hv hck hl hdr hsm
    go_enter Try.func19, Try.ntmps19
    go_wp2_with fail
    refine (C1.out).mono ?_
    rintro e _ ⟨rfl, rfl⟩
    go_wp2_with fail
    go_ret2
    exact show_mk HV.out (Below.refl _ _)
end Go.Proofs.Ytfmfcgpofkccgaa
