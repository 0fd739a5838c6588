/-
  Walk: Sum32Linear.
  Conditions: none.
-/
import Derived.Test.YtmilljfgnphilaaKnown
import Derived.Test.YtmilljfgnphilaaFrame
import Derived.Test.YtmilljfgnphilaaCrcLaws
import Derived.StillTailTactics
namespace Go.Proofs.Ytmilljfgnphilaa
open Go.ChangeShapes Go.WideShapes Go.ChangeAt Go.RowKit
def x3 (a b c : List UInt8) (i : Nat) : UInt8 := a.getD i 0 ^^^ b.getD i 0 ^^^ c.getD i 0
def fill3 (a b c : List UInt8) (n k : Nat) : List UInt8 := (List.range k).map (x3 a b c) ++ List.replicate (n - k) 0
theorem fill3_set (a b c : List UInt8) (n k : Nat) (h : k < n) : (fill3 a b c n k).set k (x3 a b c k) = fill3 a b c n (k + 1) := by
  unfold fill3
  rw [List.set_append_right _ _ (by simp), List.range_succ, List.map_append, List.append_assoc]
  congr 1
  obtain ⟨m, hm⟩ : ∃ m, n - k = m + 1 := ⟨n - k - 1, by omega⟩
  rw [hm, show n - (k + 1) = m by omega]
  simp [List.replicate_succ]
theorem fill3_length (a b c : List UInt8) (n k : Nat) (h : k ≤ n) : (fill3 a b c n k).length = n := by simp [fill3]; omega
theorem fill3_zip (a b c : List UInt8) (n : Nat) (h1 : n ≤ a.length) (h2 : n ≤ b.length) (h3 : n ≤ c.length) :
    fill3 a b c n n = List.zipWith (· ^^^ ·) (List.zipWith (· ^^^ ·) (a.take n) (b.take n)) (c.take n) := by
  apply List.ext_getElem
  · simp [fill3]; omega
  · intro i hi hj
    have hin : i < n := by rwa [fill3_length _ _ _ _ _ (Nat.le_refl _)] at hi
    simp [fill3, x3, List.getD, show i < a.length by omega, show i < b.length by omega, show i < c.length by omega, List.getElem_append, hin]
set_option maxHeartbeats 2000000 in
theorem Sum32Linear_walk {A : Option Addr} {n c : Nat} {l : List UInt8} {A' : Option Addr} {n' c' : Nat} {l' : List UInt8} {A'' : Option Addr} {n'' c'' : Nat} {l'' : List UInt8} (W : World)
    (h : RB W W.heap.size A n c l) (h' : RB W W.heap.size A' n' c' l') (h'' : RB W W.heap.size A'' n'' c'' l'') :
    Calls Try.prog 7 #[.slice A n c, .slice A' n' c', .slice A'' n'' c''] W fun e w' => e = .returned (.bool true) ∧ Below W.heap.size W w' := by
  have q1 := h.lt
  have q2 := h'.lt
  have q3 := h''.lt
  have k1 := h.len
  have k2 := h'.len
  have k3 := h''.len
  obtain ⟨m, hm⟩ : ∃ m : Nat, m = min (min (min n n') n'') 16384 := ⟨_, rfl⟩
  have m1 : m ≤ n := by omega
  have m2 : m ≤ n' := by omega
  have m3 : m ≤ n'' := by omega
  have m4 : m ≤ 16384 := by omega
  have hmin : ∀ (ts : Array TypeId) (t : TypeId) (w : World), (Builtin.min_ ts t #[.int .i64 (n : Int), .int .i64 (n' : Int), .int .i64 (n'' : Int), .int .i64 16384]).run Try.prog w = .ok (.int .i64 (m : Int)) w := by
    intro ts t w
    have : (m : Int) = if (16384 : Int) < (if (n'' : Int) < (if (n' : Int) < n then (n' : Int) else n) then (n'' : Int) else (if (n' : Int) < n then (n' : Int) else n)) then 16384 else (if (n'' : Int) < (if (n' : Int) < n then (n' : Int) else n) then (n'' : Int) else (if (n' : Int) < n then (n' : Int) else n)) := by omega
    rw [this]
    simp [Builtin.min_, Builtin.min2]
  have K1 := Lib.hid k1; have K2 := Lib.hid k2; have K3 := Lib.hid k3; have HM := Lib.hid hm
  clear k1 k2 k3 hm
  go_enter Try.func7, Try.ntmps7
  go_wp2_with (at_make; refine wpList_mkb etb rfl (.tmp 19) (.tmp 19) rfl .i64 .i64 m m rfl rfl (by omega) (by omega) W.heap.size (Nat.le_refl _) ?_; intro w1 hw1 hb1 hs1)
  clear hmin
  go_loopw [9] (fun i wr => ∃ k : Nat, k ≤ m ∧ i = .int .i64 k ∧ OB wr W.heap.size (some ⟨W.heap.size, 0, none⟩) m m (fill3 l l' l'' m k) ∧ Below W.heap.size W wr) (fun i _ => m - (intOf i).toNat)
  case atStart => exact ⟨0, Nat.zero_le _, rfl, by simpa [fill3] using hw1, hb1⟩
  case round =>
    obtain ⟨k, hk, rfl, hown, hbel⟩ := hrel
    by_cases hlt : k < m
    · obtain ⟨b, o, rfl, hbb, hcc⟩ := (h.below hbel).at_ (by omega)
      obtain ⟨b', o', rfl, hbb', hcc'⟩ := (h'.below hbel).at_ (by omega)
      obtain ⟨b'', o'', rfl, hbb'', hcc''⟩ := (h''.below hbel).at_ (by omega)
      have g1 := hcc k (by omega)
      have g2 := hcc' k (by omega)
      have g3 := hcc'' k (by omega)
      have g4 := hown.cell hlt
      have g5 := hown.free k
      have hx : x3 l l' l'' k = l.getD k 0 ^^^ l'.getD k 0 ^^^ l''.getD k 0 := rfl
      have hfs := fill3_set l l' l'' m k hlt
      generalize l.getD k 0 = x at *
      generalize l'.getD k 0 = y at *
      generalize l''.getD k 0 = z at *
      have i0 : (0 : Int) ≤ (k : Int) := by omega
      have i1 : (k : Int) < (n : Int) := by omega
      have i2 : (k : Int) < (n' : Int) := by omega
      have i3 : (k : Int) < (n'' : Int) := by omega
      have i4 : (k : Int) < (m : Int) := by omega
      have HX := Lib.hid hx; have HF := Lib.hid hfs
      clear hcc hcc' hcc'' hx hfs
      go_wp2_with fail
      go_still_tail 17, (by kernel_rfl)
      change wpList _ _ _ _ _ wr.drew
      go_wp2
      go_roundw
      case rel =>
        have R := hown.setv k (v := bits .xor .u8 (bits .xor .u8 (x.toNat : Int) (y.toNat : Int)) (z.toNat : Int)) (x ^^^ y ^^^ z) (by rw [u8_xor_bytes, u8_xor_bytes])
        exact ⟨k + 1, by omega, by go_num, by have := R.1; rw [← HX.out, HF.out] at this; exact this, (hbel.setCell (p := ⟨W.heap.size, k, none⟩) (Nat.le_refl _) _).drew⟩
      case measure => simp [intOf]; omega
    · obtain rfl : k = m := by omega
      have c1 := h.le
      have c2 := h'.le
      have c3 := h''.le
      have t1 := h.take m1
      have t2 := h'.take m2
      have t3 := h''.take m3
      have z0 := hbel.size
      have hd := Crc.on_xor3 (l.take k) (l'.take k) (l''.take k) (fill3 l l' l'' k k) (by simp [K1.out, K2.out]; omega) (by simp [K2.out, K3.out]; omega) (fill3_zip l l' l'' k (by rw [K1.out]; exact m1) (by rw [K2.out]; exact m2) (by rw [K3.out]; exact m3))
      have hx32 : Crc.on 0 (l.take k) < 4294967296 := Crc.on_lt _ _
      have hy32 : Crc.on 0 (l'.take k) < 4294967296 := Crc.on_lt _ _
      have hz32 : Crc.on 0 (l''.take k) < 4294967296 := Crc.on_lt _ _
      have hinj := Crc.on_inj (Crc.on 0 (l.take k)) (Crc.on 0 (l'.take k)) hx32 hy32 (fill3 l l' l'' k k)
      generalize fill3 l l' l'' k k = d at *
      have hbits : bits .xor .u32 (bits .xor .u32 (Crc.on 0 (l.take k) : Int) (Crc.on 0 (l'.take k) : Int)) (Crc.on 0 (l''.take k) : Int) = (Crc.on 0 d : Int) := by
        rw [u32_xor_nat _ _ hx32 hy32, u32_xor_nat _ _ (Nat.xor_lt_two_pow (n := 32) hx32 hy32) hz32, hd]
      obtain ⟨bb, e1, e2⟩ : ∃ bb : Bool, ((Crc.on 0 (l.take k) : Int) == (Crc.on 0 (l'.take k) : Int)) = bb ∧ ((Crc.on (Crc.on 0 (l.take k)) d : Int) == (Crc.on (Crc.on 0 (l'.take k)) d : Int)) = bb := by
        by_cases he : Crc.on 0 (l.take k) = Crc.on 0 (l'.take k)
        · exact ⟨true, by rw [he]; simp, by rw [he]; simp⟩
        · exact ⟨false, by rw [beq_eq_false_iff_ne]; omega, by rw [beq_eq_false_iff_ne]; intro h; exact he (hinj (by omega))⟩
      have HB := Lib.hid hbits; have E1 := Lib.hid e1; have E2 := Lib.hid e2
      clear hd hinj hbits e1 e2
      go_wp2_with fail
      refine (Sum_any _ (t1.below hbel) z0).mono ?_
      rintro e w2 ⟨rfl, hb2⟩
      have b2 := hbel.trans (hb2.mono z0)
      go_wp2_with fail
      refine (Sum_any _ (t2.below b2) b2.size).mono ?_
      rintro e w3 ⟨rfl, hb3⟩
      have b3 := b2.trans (hb3.mono b2.size)
      have o3 := (hown.below hb2).below hb3
      go_wp2_with fail
      refine region_later (by kernel_rfl) ?_
      refine phase_later (by kernel_rfl) 21 (below_drew _) [0, 2, 3, 5, 6, 4, 7] rfl (by kernel_rfl) ?_
      simp only [picks, nth]
      repeat (go_big_quiet_step (fail))
      refine wpQuiet_nil ?_
      refine phase_op 1 20 rfl (by kernel_rfl) (by decide) ?_
      simp only [nth]
      go_wp2_with fail
      refine (Sum_any _ o3.rb.drew (Nat.le_refl _)).mono ?_
      rintro e w4 ⟨rfl, hb4⟩
      go_wp2_with fail
      refine behind_later ((below_drew _).trans hb4) ?_
      have o4 := o3.below ((below_drew _).trans hb4)
      have b4 := b3.trans (((below_drew _).trans hb4).mono b3.size)
      refine phase_op 8 19 rfl (by kernel_rfl) (by decide) ?_
      simp only [nth]
      go_wp2_with fail
      refine (Sum_any _ (t3.below b4) b4.size).mono ?_
      rintro e w5 ⟨rfl, hb5⟩
      go_wp2_with fail
      refine behind_later hb5 ?_
      have o5 := o4.below hb5
      have b5 := b4.trans (hb5.mono b4.size)
      have hbits := HB.out
      have e1 := E1.out
      have e2 := E2.out
      refine phase_later (by kernel_rfl) 9 (Below.refl _ _) [9, 10, 11, 12, 13, 15, 16, 19, 20, 21] rfl (by kernel_rfl) ?_
      simp only [picks, nth]
      repeat (go_big_quiet_step (fail))
      refine wpQuiet_nil ?_
      refine phase_op 14 8 rfl (by kernel_rfl) (by decide) ?_
      simp only [nth]
      go_wp2_with fail
      refine (On_any _ _ hx32 o5.rb (Nat.le_refl _)).mono ?_
      rintro e w6 ⟨rfl, hb6⟩
      go_wp2_with fail
      refine behind_later hb6 ?_
      have o6 := o5.below hb6
      have b6 := b5.trans (hb6.mono b5.size)
      refine phase_op 17 7 rfl (by kernel_rfl) (by decide) ?_
      simp only [nth]
      go_wp2_with fail
      refine (On_any _ _ hy32 o6.rb (Nat.le_refl _)).mono ?_
      rintro e w7 ⟨rfl, hb7⟩
      go_wp2_with fail
      refine behind_later hb7 ?_
      have b7 := b6.trans (hb7.mono b6.size)
      refine phase_later (by kernel_rfl) 3 (Below.refl _ _) [18, 22, 23, 24] rfl (by kernel_rfl) ?_
      simp only [picks, nth]
      repeat (go_big_quiet_step (fail))
      refine wpQuiet_nil ?_
      refine phase_op 25 2 rfl (by kernel_rfl) (by decide) ?_
      simp only [nth]
      go_wp2_with fail
      refine (known_any _).mono ?_
      rintro e w8 ⟨rfl, hb8⟩
      go_wp2_with fail
      refine behind_later hb8 ?_
      refine phase_later (by kernel_rfl) 0 (Below.refl _ _) [26, 27] rfl (by kernel_rfl) ?_
      simp only [picks, nth]
      repeat (go_big_quiet_step (fail))
      refine wpQuiet_nil ?_
      refine phase_end (by kernel_rfl) ?_
      go_wp2_with fail
      go_ret
      exact ⟨rfl, b7.trans (hb8.mono b7.size)⟩
end Go.Proofs.Ytmilljfgnphilaa
