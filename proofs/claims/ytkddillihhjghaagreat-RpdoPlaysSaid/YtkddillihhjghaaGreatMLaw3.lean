/-
  Walk: RpdoPlays.
  Conditions: none.
-/
import Derived.Test.YtkddillihhjghaaGreatJ04
import Derived.Test.YtkddillihhjghaaGreatJ19
import Derived.Test.YtkddillihhjghaaGreatJ22
namespace Go.Proofs.YtkddillihhjghaaGreat
set_option linter.unusedVariables false
set_option linter.unusedSimpArgs false
open Go.ChangeShapes Go.WideShapes Go.ChangeAt Go.RowKit Go.Sort
theorem VlW.vlp31 {w : World} {base : Nat} {f : Dc.Vl} {cs : List Value} (h : VlW w base f cs) : VlC w w.heap.size f cs := by
  obtain ⟨A, n, c, h1, h2⟩ := h
  exact ⟨A, n, c, h1, h2.rb⟩
section
variable {w w' : World} {m m2 gd gr p gp r v : Nat} {t : Int} {ws : List Nat} {wp wr wp' wr' : List Dc.Vl} {D : Dc.Dic}
/-- What a call tells, and the PDOs behind it. -/
def PlOut (q m m2 gd gr p gp r v : Nat) (t : Int) (ws : List Nat) (x : List Dc.Vl × Int × List Dc.Vl) (wp wr : List Dc.Vl) (D : Dc.Dic) (w : World) (e : Ending) (w' : World) : Prop :=
  ∃ A1 c1, e = .returned (.agg #[.slice A1 x.1.length c1, .int .i64 x.2.1]) ∧ OS (VlW w' w.heap.size) w' w.heap.size 64 3 A1 x.1.length c1 x.1 ∧ Mv (fun b => b = q) w w' ∧ Pl w' m m2 gd gr p gp r v t ws wp wr D
theorem Pl.recv (h : Pl w m m2 gd gr p gp r v t ws wp wr D) (hd : ∀ e ∈ D.l, e.dflt.length ≤ 1000000) (hwl : ∀ x ∈ ws, x < 4294967296) {A : Option Addr} {n c B : Nat} {b : List UInt8} (hr : RB w B A n c b) (hB : B ≤ w.heap.size) (hn : n ≤ 1000000) (fid : Int) (rem : Bool) :
    Calls Tryz.prog 14 #[.pointer (some ⟨p, 0, none⟩), .agg #[.int .i64 fid, .bool rem, .slice A n c]] w (PlOut p m m2 gd gr p gp r v t ws (Rp.recvS D.l v t ws wp fid rem b) (Rp.recvS D.l v t ws wp fid rem b).2.2 wr D w) := by
  obtain ⟨⟨Fd, gv', lc', vc', la', vA', xs', vs', dD, _⟩, _, ⟨Aw', cw', Av', cv', hpm⟩, _, _⟩ := id h
  refine (Recv_any hpm dD hd hwl hr hB hn fid rem).mono ?_
  rintro e w2 ⟨A1, c1, h1, h2, h3, h4⟩
  exact ⟨A1, c1, h1, h2, h3, h.stepP h3 ⟨_, _, h4⟩⟩
theorem Pl.rrecv (h : Pl w m m2 gd gr p gp r v t ws wp wr D) (hv : v < 4294967296) (hbad : Cob.bad v = false) (hwl : ∀ x ∈ ws, x < 4294967296) {A : Option Addr} {n c B : Nat} {b : List UInt8} (hr : RB w B A n c b) (hB : B ≤ w.heap.size) (hn : n ≤ 1000000) (fid : Int) (rem : Bool) :
    Calls Tryz.prog 15 #[.pointer (some ⟨r, 0, none⟩), .agg #[.int .i64 fid, .bool rem, .slice A n c]] w (PlOut r m m2 gd gr p gp r v t ws (Rp.recvS D.l v t ws wr fid rem b) wp (Rp.recvS D.l v t ws wr fid rem b).2.2 D w) := by
  obtain ⟨_, ⟨Fr, gvr', lcr', vcr', lA', vAr', xsr', vsr', dR, _⟩, _, ⟨Aw', cw', Av', cv', hrm⟩, _⟩ := id h
  refine (RRecv_any hv hbad hrm dR hwl hr hB hn fid rem).mono ?_
  rintro e w2 ⟨A1, c1, h1, h2, h3, h4⟩
  exact ⟨A1, c1, h1, h2, h3, h.stepR h3 ⟨_, _, h4⟩⟩
theorem Pl.osR (h : Pl w m m2 gd gr p gp r v t ws wp wr D) {base n c : Nat} {A : Option Addr} {l : List Dc.Vl} (o : OS (VlW w base) w base 64 3 A n c l) (hm : Mv (fun q => q = r) w w') : OS (VlW w' base) w' base 64 3 A n c l := by
  obtain ⟨_, _, _, ⟨_, _, _, _, hrm⟩, _⟩ := h
  exact OS.mvg o hrm.blk (by decide) (by decide) hm
end
set_option maxRecDepth 100000 in
set_option maxHeartbeats 16000000 in
theorem RpdoPlays_walk (W : World) {A0 A1 A2 : Option Addr} {n0 c0 n1 c1 n2 c2 v1 : Nat} {t : Int} {es : List Ent.En} {ws : List Nat} {ops : List ROp} (h0 : REn W W.heap.size W.heap.size A0 n0 c0 es) (hnm : ∀ e ∈ es, e.name.length ≤ 9223372036854775807) (hv : v1 < 4294967296) (h1 : RW W W.heap.size A1 n1 c1 ws) (hwl : ∀ x ∈ ws, x < 4294967296) (wt : (Lit.int .i64 t).wf = true) (h2 : ROps W W.heap.size W.heap.size A2 n2 c2 ops) :
    Calls Tryz.prog 3 #[.agg #[.slice A0 n0 c0, .int .u32 (v1 : Int), .int .i64 t, .slice A1 n1 c1, .slice A2 n2 c2]] W fun e W' => e = .returned (.bool true) ∧ Below W.heap.size W W' := by
  have b0 := alloc_one W (.cells #[.slice A0 n0 c0, .int .u32 (v1 : Int), .int .i64 t, .slice A1 n1 c1, .slice A2 n2 c2] 29)
  have K := Blk.new W 29 #[.slice A0 n0 c0, .int .u32 (v1 : Int), .int .i64 t, .slice A1 n1 c1, .slice A2 n2 c2]
  have K5 := K.five
  have LI := Lib.hid (light31_any (A1 := A1) (n1 := n1) (c1 := c1) v1 t _ (h0.below b0 (Nat.le_refl _)) hnm (h2.below b0 (Nat.le_refl _)) b0.size)
  have hl1 := h1.len
  subst hl1
  go_enter Tryz.func3, Tryz.ntmps3
  go_wp2_with fail
  refine (LI.out).mono ?_
  rintro e w1 ⟨bl, rfl, b1, hbl⟩
  have d1 := below_step b0 b1 (Nat.le_refl _)
  have K1 := K.later b1
  have F1 := K1.five
  clear K5 K b0 b1 LI
  cases bl
  · clear hbl
    go_wp2_with fail
    refine (known31_any _).mono ?_
    rintro e w9 ⟨rfl, b9⟩
    go_wp2_with fail
    go_ret
    exact ⟨rfl, below_step d1 b9 (Nat.le_refl _)⟩
  obtain ⟨_, hes, hn100, hops⟩ := hbl rfl
  clear hbl
  have hee : ∀ e ∈ es, e.name.length ≤ 1000000 ∧ e.dflt.length ≤ 1000000 := fun e he => by have := hes e he; omega
  have hdd : ∀ e ∈ es, e.dflt.length ≤ 1000000 := fun e he => (hee e he).2
  have hvv : ∀ v ∈ es.map (·.dflt), v.length ≤ 1000000 := by
    intro v hv
    obtain ⟨e, he, rfl⟩ := List.mem_map.1 hv
    exact (hee e he).2
  have ND := dNew_any w1 (h0.below d1 (Nat.le_refl _)) d1.size (Nat.le_refl _) hee
  have RD := fun (w : World) (hb : Below w1.heap.size w1 w) => rNew_any w (h0.below (below_step d1 hb (Nat.le_refl _)) (Nat.le_refl _)) (below_step d1 hb (Nat.le_refl _)).size (Nat.le_refl _) hee
  unfold NewPost at ND
  unfold RNewPost at RD
  clear hes hnm hee
  generalize hD : (⟨es, es.map (·.dflt)⟩ : Dc.Dic) = D at *
  have hDl : es = D.l := by rw [← hD]
  have hDv : es.map (·.dflt) = D.v := by rw [← hD]
  rw [hDl] at hdd
  rw [hDv] at hvv
  clear hD hDl hDv h0
  generalize Dc.newS es = nn at *
  obtain ⟨ne, np⟩ := nn
  dsimp only at ND RD
  replace ND := Lib.hid ND; replace RD := Lib.hid RD
  have hops' := Lib.hid hops
  clear hops
  by_cases hne : ne = 0
  case neg =>
    have hne2 : (ne == 0) = false := by simpa using hne
    have hne3 : (ne != 0) = true := by simpa using hne
    have hne4 : (ne == ne) = true := by simp
    have hne5 : (ne != ne) = false := by simp
    have HNE := Lib.hid hne
    clear hne
    go_wp2_with fail
    refine (ND.out).mono ?_
    rintro e w2 (⟨hx, _⟩ | ⟨_, b2, rfl⟩)
    case inl => exact absurd hx HNE.out
    have d2 := below_step d1 b2 (Nat.le_refl _)
    have F2 := (K1.later b2).five
    clear F1
    go_wp2_with fail
    refine (RD.out _ b2).mono ?_
    rintro e w3 (⟨hx, _⟩ | ⟨_, b3, a, rfl⟩)
    case inl => exact absurd hx HNE.out
    have d3 := below_step d2 b3 (Nat.le_refl _)
    clear ND RD
    go_wp2_with fail
    refine (known31_any _).mono ?_
    rintro e w9 ⟨rfl, b9⟩
    go_wp2_with fail
    go_ret
    exact ⟨rfl, below_step d3 b9 (Nat.le_refl _)⟩
  subst hne
  go_wp2_with fail
  refine (ND.out).mono ?_
  rintro e w2 (⟨_, b2, gd, gv, lc, vc, la, vA, xs, vs, rfl, hd⟩ | ⟨hx, _⟩)
  case inr => exact absurd rfl hx
  replace hd := hd.cut
  have d2 := below_step d1 b2 (Nat.le_refl _)
  have K2 := K1.later b2
  have F2 := K2.five
  clear F1 K1
  go_wp2_with fail
  refine (RD.out _ b2).mono ?_
  rintro e w3 (⟨_, b3, gr, gvr, lcr, vcr, lA, vAr, xsr, vsr, rfl, hr⟩ | ⟨hx, _⟩)
  case inr => exact absurd rfl hx
  replace hr := hr.cut
  have hd3 := hd.below b3
  have hfd : ∀ q, (w1.heap.size ≤ q ∧ q < w2.heap.size) → q < w3.heap.size := fun q h => Nat.lt_of_lt_of_le h.2 b3.size
  have hfr : ∀ q, (w2.heap.size ≤ q ∧ q < w3.heap.size) → q < w3.heap.size := fun q h => h.2
  have d3 := below_step d2 b3 (Nat.le_refl _)
  have K3 := K2.later b3
  have F3 := K3.five
  have GV := Lib.hid (fun w => given31_any v1 t A1 ws.length c1 w)
  clear F2 K2 ND RD hd b2 b3 d1 d2
  go_wp2_with fail
  refine (GV.out _).mono ?_
  rintro e w4 ⟨rfl, b4⟩
  have d4 := below_step d3 b4 (Nat.le_refl _)
  have b5 := alloc_two w4 (.cells #[.int .u32 (v1 : Int), .int .i64 t, .slice A1 ws.length c1] 39) (.cells #[] 23)
  have KO := (Blk.new w4 39 #[.int .u32 (v1 : Int), .int .i64 t, .slice A1 ws.length c1]).alloc (.cells #[] 23)
  have o5 : OV ((w4.alloc (.cells #[.int .u32 (v1 : Int), .int .i64 t, .slice A1 ws.length c1] 39)).alloc (.cells #[] 23)) w4.heap.size 23 1 (some ⟨w4.heap.size + 1, 0, none⟩) 0 0 [] := by
    have := OV.new (base := w4.heap.size) (e := 23) (size := 1) (w4.alloc (.cells #[.int .u32 (v1 : Int), .int .i64 t, .slice A1 ws.length c1] 39)) [] 0 rfl (by omega) (by simp)
    simpa only [World.size_alloc] using this
  have hWl := K3.lt
  have hz34 := b4.size
  have K5 := (K3.later b4).later b5
  have F5 := K5.five
  have r5 := (h1.below d4).below (b5.mono d4.size)
  have hd4 := hd3.below b4
  have hr4 := hr.below b4
  have hz5 : w4.heap.size ≤ ((w4.alloc (.cells #[.int .u32 (v1 : Int), .int .i64 t, .slice A1 ws.length c1] 39)).alloc (.cells #[] 23)).heap.size := b5.size
  clear K3 hd3 hr GV
  go_wp2_with (at_builtin; refine wpList_app etw rfl (.tmp 55) (.tmp 58) rfl rfl rfl w4.heap.size o5 r5 (by intro u hu; obtain ⟨x, _, rfl⟩ := List.mem_map.1 hu; rfl) (by omega) (by omega) hz5 ?_; simp only [Nat.zero_add, List.nil_append]; intro A6 c6 w6 o6 g6 _; have b6 := grown_below g6 o5.lt hz5; have KO6 := KO.mv (Mv.of_grown g6) (by intro e; have e' : some w4.heap.size = some (w4.heap.size + 1) := e; simp at e'); have K6 := K5.mv (Mv.of_below b6) (by omega); have F6 := KO6.three; clear F5)
  have KO7 := KO6.set_ 2 (.slice A6 ws.length c6)
  have K7 := K6.mv (Mv.setCell w6 ⟨w4.heap.size, 2, none⟩ (.slice A6 ws.length c6)) (by show ¬ W.heap.size = w4.heap.size; omega)
  have o7 : OWd (w6.setCell ⟨w4.heap.size, 2, none⟩ (.slice A6 ws.length c6)) w4.heap.size A6 ws.length c6 ws := OV.off o6 KO6 (by decide)
  have b47 : Below w4.heap.size w4 (w6.setCell ⟨w4.heap.size, 2, none⟩ (.slice A6 ws.length c6)) := (b5.trans b6).setCell (p := ⟨w4.heap.size, 2, none⟩) (Nat.le_refl _) _
  clear o6 g6 b6 KO6 K6 F6 o5 b5 hz5 r5 K5 KO F3
  generalize w6.setCell ⟨w4.heap.size, 2, none⟩ (.slice A6 ws.length c6) = w7 at *
  have KO7' : Blk w7 w4.heap.size 39 #[.int .u32 (v1 : Int), .int .i64 t, .slice A6 ws.length c6] := KO7
  clear KO7
  have hz47 := b47.size
  have hd7 := hd4.below b47
  have hr7 := hr4.below b47
  have d7 := below_step d4 b47 (Nat.le_refl _)
  have F7 := K7.five
  have FO7 := KO7'.three
  have RN := RpNew_any v1 hv t hd7 hdd o7.rw hwl (Nat.le_refl _)
  have RR := fun (w : World) (hb : Below w7.heap.size w7 w) => RRNew_any v1 hv t (hr7.below hb) (h1.below (below_step d7 hb (Nat.le_refl _))) (by omega) hwl (below_step d7 hb (Nat.le_refl _)).size
  have CK := fun (w : World) (hb : Below w7.heap.size w7 w) => RCheck_any v1 hv t (hd7.below hb) hdd (o7.rw.below hb) hwl hb.size
  have CR := fun (w : World) (hb : Below w7.heap.size w7 w) => RRCheck_any v1 hv t (hr7.below hb) (h1.below (below_step d7 hb (Nat.le_refl _))) hwl (below_step d7 hb (Nat.le_refl _)).size
  have hcp := Rp.check_parts (l := D.l) (w := v1) (t := t) (ws := ws)
  unfold RNewP at RN
  unfold RRNewP at RR
  generalize Rp.checkS D.l v1 t ws = ck at *
  replace RN := Lib.hid RN; replace RR := Lib.hid RR; replace CK := Lib.hid CK; replace CR := Lib.hid CR
  have HD7 := Lib.hid hd7; have HR7 := Lib.hid hr7
  have HCP := Lib.hid hcp
  clear hd4 hr4 hd7 hr7 b4 b47 hcp
  have hrow := OV.lt o7
  by_cases hck : ck = 0
  case neg =>
    have c2' : (ck == 0) = false := by simpa using hck
    have c3' : (ck != ck) = false := by simp
    have HCK := Lib.hid hck
    clear hck
    go_wp2_with fail
    refine (RN.out).mono ?_
    rintro e w8 (⟨hx, _⟩ | ⟨_, b8, rfl⟩)
    case inl => exact absurd hx HCK.out
    have F8 := (K7.later b8).five
    clear F7 FO7
    go_wp2_with fail
    refine (RR.out _ b8).mono ?_
    rintro e w9 ⟨r, Awr, cwr, rfl, b9, hrm⟩
    have b79 := below_step b8 b9 (Nat.le_refl _)
    have FO9 := (KO7'.later b79).three
    have F9 := (K7.later b79).five
    have g0 := cell_regrown FO9.1
    have g1 := cell_regrown FO9.2.1
    have g2 := cell_regrown FO9.2.2.1
    have g4 := cell_regrown F9.1.2.1
    have g5 := cell_regrown F9.1.2.2.1
    have g6 := cell_regrown F9.1.2.2.2.1
    have CKq := Lib.hid (fun d os => Calls.regrown_of (CK.out _ (below_step b79 (below_regrown w9 d os) (Nat.le_refl _))))
    have CRq := Lib.hid (fun d os => Calls.regrown_of (CR.out _ (below_step b79 (below_regrown w9 d os) (Nat.le_refl _))))
    clear CK CR RN RR F8 FO9 F9
    go_wp2_with fail
    refine wp_region_quiet_below (by kernel_rfl) (by kernel_rfl) ?_
    repeat (go_big_quiet_step (first | with_reducible exact CKq.out _ _ | with_reducible exact CRq.out _ _))
    refine wpQuiet_nil ?_
    intro _ hw'
    obtain ⟨⟨dq, osq⟩, hw''⟩ := hw'
    subst hw''
    dsimp only
    have b10 := below_step b79 (below_regrown w9 dq osq) (Nat.le_refl _)
    generalize grow (redrawn w9 dq) osq = w10 at *
    have KO10 := KO7'.later b10
    have K10 := K7.later b10
    have ov10 := OV.below o7 b10
    have d10 := below_step d7 b10 (Nat.le_refl _)
    have hW4 : W.heap.size < w4.heap.size := by omega
    clear g0 g1 g2 g4 g5 g6 CKq CRq b10 b79 b8 b9 KO7' K7 o7 hrm
    go_wp2_with fail
    go_loopw [14] (fun i wr => ∃ k : Nat, k ≤ ws.length ∧ i = .int .i64 k ∧ Mv (fun q => w4.heap.size ≤ q ∧ q < w7.heap.size) w10 wr ∧ Blk wr w4.heap.size 39 #[.int .u32 (v1 : Int), .int .i64 t, .slice A6 ws.length c6] ∧ ∃ xs, OV wr w4.heap.size 23 1 A6 ws.length c6 xs) (fun i _ => ws.length - (intOf i).toNat)
    case atStart => exact ⟨0, by omega, rfl, Mv.refl _ _, KO10, _, ov10⟩
    case round =>
      obtain ⟨k, hk, rfl, hm, hko, xs1, hov⟩ := hrel
      have hlc := hov.rv.cap
      have hle := hov.rv.le
      by_cases hlt : k < ws.length
      · obtain ⟨g6, rfl, hg6, hgl⟩ := OV.head hov (by omega)
        have hl6 := (hrow g6 rfl).2
        have hcell := World.ownsRow.cellAt hov k (by omega)
        have hxl := hov.1
        rw [show xs1[k]? = some (xs1.getD k (.int .u32 0)) by simp [List.getD, List.getElem?_eq_getElem (show k < xs1.length by omega)]] at hcell
        have hfree := OV.free hov k
        have hov2 := OV.set hov k (.int .u32 1)
        have m2 : Mv (fun q => q = g6) wr (wr.setCell ⟨g6, k, none⟩ (.int .u32 1)) := Mv.setCell wr ⟨g6, k, none⟩ _
        have hko2 := hko.mv m2 (fun e => own_blk_ne hov hko (by decide) (by rw [show (w4.heap.size) = g6 from e]; rfl))
        have FK := hko.three
        have hm2 := hm.trans m2 (fun b _ e => by subst e; exact ⟨hg6, hl6⟩)
        generalize xs1.getD k (.int .u32 0) = u0 at *
        clear hov hko hm m2 KO10 ov10
        go_wp2_with fail
        go_roundw
        case rel => exact ⟨k + 1, by omega, by go_num, hm2, hko2, _, hov2.1⟩
        case measure => simp [intOf] <;> omega
      · obtain rfl : k = ws.length := by omega
        have FK := hko.three
        have d11 := d10.trans (hm.below d10.size fun q e => by omega)
        have K11 := K10.mv hm (by omega)
        have FC := K11.five
        clear hov hm hko K10 ov10 KO10
        go_wp2_with fail
        go_loopw [15] (fun i w => i = .int .i64 0 ∧ w = wr) (fun _ _ => 0)
        case atStart => exact ⟨rfl, rfl⟩
        case round =>
          obtain ⟨rfl, rfl⟩ := hrel
          by_cases hn2 : n2 = 0
          · subst hn2
            go_wp2_with fail
            refine (known31_any _).mono ?_
            rintro e w13 ⟨rfl, b13⟩
            go_wp2_with fail
            go_ret
            exact ⟨rfl, below_step d11 b13 (Nat.le_refl _)⟩
          · have hn2' : (0 : Int) < (n2 : Int) := by omega
            go_wp2_with fail
            refine (known31_any _).mono ?_
            rintro e w13 ⟨rfl, b13⟩
            go_wp2_with fail
            go_ret
            exact ⟨rfl, below_step d11 b13 (Nat.le_refl _)⟩
  subst hck
  have hbad := Cob.place_bad (HCP.out rfl).1
  clear HCP
  go_wp2_with fail
  refine (RN.out).mono ?_
  rintro e w8 (⟨_, b8, p, gp, Aw, cw, rfl, hp⟩ | ⟨hx, _⟩)
  case inr => exact absurd rfl hx
  have F8 := (K7.later b8).five
  clear F7 FO7
  go_wp2_with fail
  refine (RR.out _ b8).mono ?_
  rintro e w9 ⟨r, Awr, cwr, rfl, b9, hrm⟩
  have b79 := below_step b8 b9 (Nat.le_refl _)
  have FO9 := (KO7'.later b79).three
  have F9 := (K7.later b79).five
  have g0 := cell_regrown FO9.1
  have g1 := cell_regrown FO9.2.1
  have g2 := cell_regrown FO9.2.2.1
  have g4 := cell_regrown F9.1.2.1
  have g5 := cell_regrown F9.1.2.2.1
  have g6 := cell_regrown F9.1.2.2.2.1
  have CKq := Lib.hid (fun d os => Calls.regrown_of (CK.out _ (below_step b79 (below_regrown w9 d os) (Nat.le_refl _))))
  have CRq := Lib.hid (fun d os => Calls.regrown_of (CR.out _ (below_step b79 (below_regrown w9 d os) (Nat.le_refl _))))
  clear CK CR RN RR F8 FO9 F9
  go_wp2_with fail
  refine wp_region_quiet_below (by kernel_rfl) (by kernel_rfl) ?_
  repeat (go_big_quiet_step (first | with_reducible exact CKq.out _ _ | with_reducible exact CRq.out _ _))
  refine wpQuiet_nil ?_
  intro _ hw'
  obtain ⟨⟨dq, osq⟩, hw''⟩ := hw'
  subst hw''
  dsimp only
  have bq := below_regrown w9 dq osq
  have b10 := below_step b79 bq (Nat.le_refl _)
  generalize grow (redrawn w9 dq) osq = w10 at *
  have KO10 := KO7'.later b10
  have K10 := K7.later b10
  have ov10 := OV.below o7 b10
  have d10 := below_step d7 b10 (Nat.le_refl _)
  have P10 : Pl w10 w3.heap.size w7.heap.size gd gr p gp r v1 t ws [] [] D := ⟨⟨_, gv, lc, vc, la, vA, xs, vs, (HD7.out).below b10, hfd⟩, ⟨_, gvr, lcr, vcr, lA, vAr, xsr, vsr, (HR7.out).below b10, hfr⟩, ⟨_, _, _, _, (hp.below b9).below bq⟩, ⟨_, _, _, _, (hrm.more b8.size).below bq⟩, by omega⟩
  have hW4 : W.heap.size < w4.heap.size := by omega
  clear g0 g1 g2 g4 g5 g6 CKq CRq b10 b79 b8 b9 KO7' K7 o7 hp hrm bq
  go_wp2_with fail
  go_loopw [14] (fun i wr => ∃ k : Nat, k ≤ ws.length ∧ i = .int .i64 k ∧ Mv (fun q => w4.heap.size ≤ q ∧ q < w7.heap.size) w10 wr ∧ Blk wr w4.heap.size 39 #[.int .u32 (v1 : Int), .int .i64 t, .slice A6 ws.length c6] ∧ ∃ xs, OV wr w4.heap.size 23 1 A6 ws.length c6 xs) (fun i _ => ws.length - (intOf i).toNat)
  case atStart => exact ⟨0, by omega, rfl, Mv.refl _ _, KO10, _, ov10⟩
  case round =>
    obtain ⟨k, hk, rfl, hm, hko, xs1, hov⟩ := hrel
    have hlc := hov.rv.cap
    have hle := hov.rv.le
    by_cases hlt : k < ws.length
    · obtain ⟨g6, rfl, hg6, hgl⟩ := OV.head hov (by omega)
      have hl6 := (hrow g6 rfl).2
      have hcell := World.ownsRow.cellAt hov k (by omega)
      have hxl := hov.1
      rw [show xs1[k]? = some (xs1.getD k (.int .u32 0)) by simp [List.getD, List.getElem?_eq_getElem (show k < xs1.length by omega)]] at hcell
      have hfree := OV.free hov k
      have hov2 := OV.set hov k (.int .u32 1)
      have m2 : Mv (fun q => q = g6) wr (wr.setCell ⟨g6, k, none⟩ (.int .u32 1)) := Mv.setCell wr ⟨g6, k, none⟩ _
      have hko2 := hko.mv m2 (fun e => own_blk_ne hov hko (by decide) (by rw [show (w4.heap.size) = g6 from e]; rfl))
      have FK := hko.three
      have hm2 := hm.trans m2 (fun b _ e => by subst e; exact ⟨hg6, hl6⟩)
      generalize xs1.getD k (.int .u32 0) = u0 at *
      clear hov hko hm m2 KO10 ov10
      go_wp2_with fail
      go_roundw
      case rel => exact ⟨k + 1, by omega, by go_num, hm2, hko2, _, hov2.1⟩
      case measure => simp [intOf] <;> omega
    · obtain rfl : k = ws.length := by omega
      have FK := hko.three
      have d11 := d10.trans (hm.below d10.size fun q e => by omega)
      have K11 := K10.mv hm (by omega)
      have FC := K11.five
      have P11 := P10.low hm (fun q e => ⟨by omega, e.2⟩)
      clear P10
      clear hov hm hko K10 ov10 KO10
      go_wp2_with fail
      have hl2 : n2 ≤ 9223372036854775807 := h2.lt
      clear FC FK
      go_loopw [15] (fun i w => ∃ (k : Nat) (waits : List Dc.Vl), k ≤ n2 ∧ k ≤ 60 ∧ i = .int .i64 k ∧ Below W.heap.size W w ∧ Blk w W.heap.size 29 #[.slice A0 n0 c0, .int .u32 (v1 : Int), .int .i64 t, .slice A1 ws.length c1, .slice A2 n2 c2] ∧ Pl w w3.heap.size w7.heap.size gd gr p gp r v1 t ws waits waits D ∧ (240 < t → waits = [])) (fun i _ => n2 - (intOf i).toNat)
      case atStart => exact ⟨0, [], by omega, by omega, rfl, d11, K11, P11, fun _ => rfl⟩
      case round =>
        clear P11 K11 d11
        obtain ⟨k, waits, hk, hk60, rfl, dk, KK, PK, hwt0⟩ := hrel
        obtain ⟨w11, hw11⟩ : ∃ w, w = wr := ⟨wr, rfl⟩
        subst hw11
        have hwt := Lib.hid hwt0
        clear hwt0
        by_cases hkn : k < n2
        case neg =>
          obtain rfl : k = n2 := by omega
          have FC := KK.five
          go_wp2_with fail
          refine (known31_any _).mono ?_
          rintro e w13 ⟨rfl, b13⟩
          go_wp2_with fail
          go_ret
          exact ⟨rfl, below_step dk b13 (Nat.le_refl _)⟩
        by_cases hk6 : k < 60
        case neg =>
          obtain rfl : k = 60 := by omega
          have FC := KK.five
          have hn60 : (60 : Int) < (n2 : Int) := by omega
          go_wp2_with fail
          refine (known31_any _).mono ?_
          rintro e w13 ⟨rfl, b13⟩
          go_wp2_with fail
          go_ret
          exact ⟨rfl, below_step dk b13 (Nat.le_refl _)⟩
        obtain ⟨bo, oo, A', n', c', rfl, hbB, q0, q1, q2, q3, q4, hrb⟩ := (h2.below dk (Nat.le_refl _)).at_ hkn
        have hd100 := hops'.out k hkn hk6
        have hdat := hrb.len
        generalize ops.getD k rop0 = op at *
        obtain ⟨kd, fid, rem, dat, own⟩ := op
        dsimp only at q0 q1 q2 q3 q4 hrb hd100 hdat
        have hn' : n' ≤ 100 := by omega
        have ba := alloc_one w11 (.cells #[.int .i64 kd, .int .i64 fid, .bool rem, .slice A' n' c', .bool own] 53)
        have KP := Blk.new w11 53 #[.int .i64 kd, .int .i64 fid, .bool rem, .slice A' n' c', .bool own]
        have FP := KP.five
        have FC := KK.five
        by_cases hkd : kd = 0
        case neg =>
          have hkd2 : (kd == 0) = false := by simpa using hkd
          clear hkd
          have PA := PK.below ba
          have dA := below_step dk ba (Nat.le_refl _)
          have KA := KK.later ba
          clear PK KK
          generalize HWA : w11.alloc (.cells #[.int .i64 kd, .int .i64 fid, .bool rem, .slice A' n' c', .bool own] 53) = wa at PA dA KA
          obtain ⟨_, _, ⟨Aw1, cw1, Av1, cv1, hpm1⟩, _, _⟩ := id PA
          have PP := Lib.hid (Pulse_any hpm1)
          clear hpm1
          subst HWA
          go_wp2_with fail
          refine (PP.out).mono ?_
          unfold PulseP
          rintro e w13 ⟨A8, c8, rfl, o8, M8, hp8⟩
          have P13 := PA.stepP M8 ⟨_, _, _, _, hp8⟩
          have d13 : Below W.heap.size W w13 := dA.trans (M8.below dA.size fun q e => by subst e; have := PA.lt; omega)
          have K13 := KA.mv M8 (fun e => by have := PA.lt; omega)
          obtain ⟨_, _, _, ⟨Aw2, cw2, Av2, cv2, hrm2⟩, _⟩ := id P13
          have RP := Lib.hid (RPulse_any hrm2)
          have hoo := fun (w' : World) (hm : Mv (fun b => b = r) w13 w') => OS.mvg o8 hrm2.blk (by decide) (by decide) hm
          clear PP KA PA hrm2 M8 hp8 o8
          go_wp2_with fail
          refine (RP.out).mono ?_
          unfold RPulseP
          rintro e w14 ⟨A9, c9, rfl, o9, M9, hr9⟩
          have o8 := hoo _ M9
          have P14 := P13.stepR M9 ⟨_, _, _, _, hr9⟩
          have d14 : Below W.heap.size W w14 := d13.trans (M9.below d13.size fun q e => by subst e; have := P13.lt; omega)
          have K14 := K13.mv M9 (fun e => by have := P13.lt; omega)
          have SM := Lib.hid (VSame_any w14 (show RVl w14 w14.heap.size w14.heap.size A8 waits.length c8 waits from o8.rs.imp fun _ _ h => h.vlp31) (show RVl w14 w14.heap.size w14.heap.size A9 waits.length c9 waits from o9.rs.imp fun _ _ h => h.vlp31) (Nat.le_refl _) (Nat.le_refl _) (Nat.le_refl _) (Nat.le_refl _))
          clear RP hoo P13 K13 M9 hr9 o8 o9
          go_wp2_with fail
          refine (SM.out).mono ?_
          rintro e w15 ⟨rfl, b15⟩
          have P15 := P14.below b15
          have K15 := K14.later b15
          have d15 := below_step d14 b15 (Nat.le_refl _)
          clear SM P14 K14
          obtain ⟨⟨Fd, gv', lc', vc', la', vA', xs', vs', dD, _⟩, ⟨Fr, gvr', lcr', vcr', lA', vAr', xsr', vsr', dR, _⟩, ⟨Aw', cw', Av', cv', hpm⟩, ⟨Awr', cwr', Avr', cvr', hrmm⟩, _⟩ := id P15
          have ID := Lib.hid (RpId_any hpm.blk)
          have RID := Lib.hid (RRId_any v1 hv hbad hrmm.blk)
          have VD := Lib.hid (fun (w : World) (hb : Below w15.heap.size w15 w) => dVals_any (dD.below hb) hvv)
          have VR := Lib.hid (fun (w : World) (hb : Below w15.heap.size w15 w) => rVals_any (dR.below hb) hvv)
          have hpp : ((Cob.pdo v1 : Int) != (Cob.pdo v1 : Int)) = false := by simp
          unfold ValsP at VD VR
          clear dD dR hpm hrmm
          go_wp2_with fail
          refine (ID.out).mono ?_
          rintro e _ ⟨rfl, rfl⟩
          go_wp2_with fail
          refine (RID.out).mono ?_
          rintro e wi ⟨rfl, bi⟩
          go_wp2_with fail
          refine (VD.out _ bi).mono ?_
          rintro e wj ⟨Aj, cj, rfl, oj, bj⟩
          have bij := below_step bi bj (Nat.le_refl _)
          go_wp2_with fail
          refine (VR.out _ bij).mono ?_
          rintro e wl ⟨Al, cl, rfl, ol, bl⟩
          have bil := below_step bij bl (Nat.le_refl _)
          have oj' := oj.below bl (R' := VlW wl _) fun _ _ h => h.below bl
          have SM := Lib.hid (VSame_any wl (show RVl wl wl.heap.size wl.heap.size Aj D.l.length cj (Dc.valuesS D) from oj'.rs.imp fun _ _ h => h.vlp31) (show RVl wl wl.heap.size wl.heap.size Al D.l.length cl (Dc.valuesS D) from ol.rs.imp fun _ _ h => h.vlp31) (Nat.le_refl _) (Nat.le_refl _) (Nat.le_refl _) (Nat.le_refl _))
          clear oj oj' ol VD VR ID RID
          go_wp2_with fail
          refine (SM.out).mono ?_
          rintro e wm ⟨rfl, bm⟩
          have bim := below_step bil bm (Nat.le_refl _)
          clear SM
          go_wp2_with fail
          go_roundw
          case rel => exact ⟨k + 1, [], by omega, by omega, by go_num, below_step d15 bim (Nat.le_refl _), K15.later bim, P15.below bim, fun _ => rfl⟩
          case measure => simp [intOf] <;> omega
        subst hkd
        cases own
        · have b2f := alloc_two w11 (.cells #[.int .i64 0, .int .i64 fid, .bool rem, .slice A' n' c', .bool false] 53) (.cells #[.int .i64 fid, .bool rem, .slice A' n' c'] 51)
          have KPF := KP.alloc (.cells #[.int .i64 fid, .bool rem, .slice A' n' c'] 51)
          have KF := Blk.new (w11.alloc (.cells #[.int .i64 0, .int .i64 fid, .bool rem, .slice A' n' c', .bool false] 53)) 51 #[.int .i64 fid, .bool rem, .slice A' n' c']
          rw [World.size_alloc] at KF
          have FPF := KPF.five
          have KFw := KF
          have bw := b2f
          clear KF KPF b2f ba
          have PF := PK.below bw
          have dF := below_step dk bw (Nat.le_refl _)
          have KFc := KK.later bw
          have rF := hrb.below (bw.mono dk.size)
          have hpl0 := PK.lt
          have RC := Pl.recv PF hdd hwl rF dF.size (by omega) fid rem
          have RRC := fun (w : World) (wp : List Dc.Vl) (P : Pl w w3.heap.size w7.heap.size gd gr p gp r v1 t ws wp waits D) (hr : RB w W.heap.size A' n' c' dat) (hB : W.heap.size ≤ w.heap.size) => Pl.rrecv P hv hbad hwl hr hB (by omega) fid rem
          have hsm := recv_small (l := D.l) (v := v1) (t := t) (ws := ws) (waits := waits) (fid := fid) (rem := rem) (b := dat)
          have hrw := recv_waits (l := D.l) (v := v1) (t := t) (ws := ws) (waits := waits) (fid := fid) (rem := rem) (b := dat)
          unfold PlOut at RC RRC
          generalize Rp.recvS D.l v1 t ws waits fid rem dat = rr at *
          obtain ⟨xl, xc, yl⟩ := rr
          dsimp only at RC RRC hsm hrw
          have HRW := Lib.hid hrw
          have HSM := Lib.hid hsm
          replace RC := Lib.hid RC; replace RRC := Lib.hid RRC
          have hxc : (xc != xc) = false := by simp
          have hzw := bw.size
          have FF := KFw.three
          clear hrw hsm PK KK hrb
          go_wp2_with fail
          refine (RC.out).mono ?_
          rintro e w13 ⟨A8, c8, rfl, o8, M8, P13⟩
          have hpl3 := P13.lt
          have bF : Below W.heap.size _ w13 := M8.below dF.size fun q e => by subst e; omega
          have d13 := dF.trans bF
          have K13 := KFc.mv M8 (by omega)
          have KF13 := KFw.mv M8 (by omega)
          have r13 := rF.below bF
          have hzw3 := Nat.le_trans hzw M8.size
          have o8' := OS.more o8 hzw fun _ _ h => h.more hzw
          have b14 := alloc_one w13 (.cells #[.slice A8 xl.length c8, .int .i64 xc] 57)
          have KX := Blk.new w13 57 #[.slice A8 xl.length c8, .int .i64 xc]
          have P14 := P13.below b14
          have d14 := below_step d13 b14 (Nat.le_refl _)
          have RR := Lib.hid (RRC.out _ _ P14 (r13.below (b14.mono d13.size)) d14.size)
          have o84 := o8'.below b14 (R' := VlW (w13.alloc (.cells #[.slice A8 xl.length c8, .int .i64 xc] 57)) _) fun _ _ h => h.below b14
          have hoR := fun (w : World) (hm : Mv (fun q => q = r) (w13.alloc (.cells #[.slice A8 xl.length c8, .int .i64 xc] 57)) w) => P14.osR o84 hm
          have K14 := K13.later b14
          have FF14 := (KF13.later b14).three
          clear RC RRC o8 o8' M8 PF KFc KFw rF FF K13 KF13 r13 bF
          go_wp2_with fail
          refine (RR.out).mono ?_
          rintro e w15 ⟨A9, c9, rfl, o9, M9, P15⟩
          have d15 := d14.trans (M9.below d14.size fun q e => by subst e; omega)
          have K15 := K14.mv M9 (by omega)
          have KX15 := KX.mv M9 (by omega)
          have o8 := hoR _ M9
          have b16 := alloc_one w15 (.cells #[.slice A9 xl.length c9, .int .i64 xc] 59)
          have KY := Blk.new w15 59 #[.slice A9 xl.length c9, .int .i64 xc]
          have KX16 := KX15.later b16
          have o86 := o8.below b16 (R' := VlW (w15.alloc (.cells #[.slice A9 xl.length c9, .int .i64 xc] 59)) _) fun _ _ h => h.below b16
          have o96 := o9.below b16 (R' := VlW (w15.alloc (.cells #[.slice A9 xl.length c9, .int .i64 xc] 59)) _) fun _ _ h => h.below b16
          have P16 := P15.below b16
          have d16 := below_step d15 b16 (Nat.le_refl _)
          have K16 := K15.later b16
          have FX := KX16.two
          have FY := KY.two
          have hzw5 : w11.heap.size ≤ w15.heap.size := Nat.le_trans hzw3 (Nat.le_trans b14.size M9.size)
          have SM := Lib.hid (VSame_any _ (show RVl (w15.alloc (.cells #[.slice A9 xl.length c9, .int .i64 xc] 59)) (w15.alloc (.cells #[.slice A9 xl.length c9, .int .i64 xc] 59)).heap.size (w15.alloc (.cells #[.slice A9 xl.length c9, .int .i64 xc] 59)).heap.size A8 xl.length c8 xl from o86.rs.imp fun _ _ h => h.vlp31) (show RVl (w15.alloc (.cells #[.slice A9 xl.length c9, .int .i64 xc] 59)) (w15.alloc (.cells #[.slice A9 xl.length c9, .int .i64 xc] 59)).heap.size (w15.alloc (.cells #[.slice A9 xl.length c9, .int .i64 xc] 59)).heap.size A9 xl.length c9 xl from o96.rs.imp fun _ _ h => h.vlp31) (Nat.le_refl _) (Nat.le_refl _) (Nat.le_refl _) (Nat.le_refl _))
          clear RR hoR P14 K14 FF14 M9 o8 o9 o84 KX P13 P15 K15 KX15
          go_wp2_with fail
          refine (SM.out).mono ?_
          rintro e w17 ⟨rfl, b17⟩
          have P17 := P16.below b17
          have K17 := K16.later b17
          have d17 := below_step d16 b17 (Nat.le_refl _)
          have KX17 := KX16.later b17
          have FX7 := KX17.two
          have FY7 := (KY.later b17).two
          have o87 := o86.below b17 (R' := VlW w17 _) fun _ _ h => h.below b17
          have hzw7 : w11.heap.size ≤ w17.heap.size := Nat.le_trans hzw5 (Nat.le_trans b16.size b17.size)
          have hcp : xl.length ≤ c8 ∧ c8 ≤ 9223372036854775807 := by obtain ⟨zs, z1, _⟩ := o87; exact ⟨z1.rv.le, z1.rv.cap⟩
          obtain ⟨hcp1, hcp2⟩ := hcp
          clear SM FX FY P16 K16 KX16 KY o86 o96 b16
          go_wp2_with fail
          clear FX7 FY7
          go_loopw [20] (fun i w => ∃ j : Nat, j ≤ xl.length ∧ i = .int .i64 j ∧ Below w11.heap.size w17 w ∧ SpU w17 w ∧ (xl.length = 0 → w = w17)) (fun i _ => xl.length - (intOf i).toNat)
          case atStart => exact ⟨0, by omega, rfl, Below.refl _ _, SpU.refl _, fun _ => rfl⟩
          case round =>
            obtain ⟨j, hj, rfl, bb, hsp, hx⟩ := hrel
            have HX := Lib.hid hx
            clear hx
            have KXs := hsp.rest _ _ _ (by decide) KX17
            have FXs := KXs.two
            by_cases hlt : j < xl.length
            · have hf : xl[j]? = some (xl.getD j vl0) := by simp [List.getD, List.getElem?_eq_getElem hlt]
              obtain ⟨zs, z1, z2⟩ := o87
              obtain ⟨Az, nz, cz, ez, ow⟩ := z2.2 j _ hf
              have z1' := z1.sp hsp (by decide)
              obtain ⟨bq, oq, e3, hbq, hcq⟩ := z1'.rv.at_ (by omega)
              subst e3
              have q2' : wr.cell? ⟨bq, oq + j * 3 + 2, none⟩ = some (.slice Az nz cz) := by
                have h5 : (zs.drop (j * 3))[2]? = some (.slice Az nz cz) := by
                  have h6 : ((zs.drop (j * 3)).take 3)[2]? = some (.slice Az nz cz) := by rw [ez]; rfl
                  rw [List.getElem?_take] at h6
                  simpa using h6
                rw [List.getElem?_drop] at h5
                have := hcq _ _ h5
                rwa [← Nat.add_assoc] at this
              have wbz := (ow.wb).sp hsp
              have hnz : nz ≤ 9223372036854775807 := Nat.le_trans wbz.le wbz.cap
              have hdz := HSM.out _ (List.mem_of_getElem? hf)
              have hlz := ow.len
              have hzr := Nat.le_trans hzw7 hsp.size
              have SP := Lib.hid (Spoil_wb wr wbz (by omega) hzr)
              clear ow z1 z2 ez z1' hcq hdz hlz hf KXs KX17 P17 K17
              go_wp2_with fail
              refine (SP.out).mono ?_
              rintro e w18 ⟨rfl, b18, sp18, _⟩
              go_wp2_with fail
              go_roundw
              case rel => exact ⟨j + 1, by omega, by go_num, bb.trans b18, hsp.trans sp18, fun h => absurd h (by omega)⟩
              case measure => simp [intOf] <;> omega
            · obtain rfl : j = xl.length := by omega
              have PS : Pl wr w3.heap.size w7.heap.size gd gr p gp r v1 t ws yl yl D := by
                by_cases ht : t ≤ 240
                · have hx0 := HRW.out.1 ht
                  rw [HX.out (by rw [hx0]; rfl)]
                  exact P17
                · have hy0 := HRW.out.2 (by omega) (hwt.out (by omega))
                  subst hy0
                  exact P17.spoil (by omega) bb hsp
              have KS := K17.mv (Mv.of_below bb) (by have := dk.size; omega)
              have dS := d17.trans (bb.mono dk.size)
              clear P17 K17 KX17 KXs o87 bb hsp
              obtain ⟨⟨Fd, gv', lc', vc', la', vA', xs', vs', dD, _⟩, ⟨Fr, gvr', lcr', vcr', lA', vAr', xsr', vsr', dR, _⟩, ⟨Aw', cw', Av', cv', hpm⟩, ⟨Awr', cwr', Avr', cvr', hrmm⟩, _⟩ := id PS
              have ID := Lib.hid (RpId_any hpm.blk)
              have RID := Lib.hid (RRId_any v1 hv hbad hrmm.blk)
              have VD := Lib.hid (fun (w : World) (hb : Below wr.heap.size wr w) => dVals_any (dD.below hb) hvv)
              have VR := Lib.hid (fun (w : World) (hb : Below wr.heap.size wr w) => rVals_any (dR.below hb) hvv)
              have hpp : ((Cob.pdo v1 : Int) != (Cob.pdo v1 : Int)) = false := by simp
              unfold ValsP at VD VR
              clear dD dR hpm hrmm
              go_wp2_with fail
              refine (ID.out).mono ?_
              rintro e _ ⟨rfl, rfl⟩
              go_wp2_with fail
              refine (RID.out).mono ?_
              rintro e wi ⟨rfl, bi⟩
              go_wp2_with fail
              refine (VD.out _ bi).mono ?_
              rintro e wj ⟨Aj, cj, rfl, oj, bj⟩
              have bij := below_step bi bj (Nat.le_refl _)
              go_wp2_with fail
              refine (VR.out _ bij).mono ?_
              rintro e wl ⟨Al, cl, rfl, ol, bl⟩
              have bil := below_step bij bl (Nat.le_refl _)
              have oj' := oj.below bl (R' := VlW wl _) fun _ _ h => h.below bl
              have SM := Lib.hid (VSame_any wl (show RVl wl wl.heap.size wl.heap.size Aj D.l.length cj (Dc.valuesS D) from oj'.rs.imp fun _ _ h => h.vlp31) (show RVl wl wl.heap.size wl.heap.size Al D.l.length cl (Dc.valuesS D) from ol.rs.imp fun _ _ h => h.vlp31) (Nat.le_refl _) (Nat.le_refl _) (Nat.le_refl _) (Nat.le_refl _))
              clear oj oj' ol VD VR ID RID
              go_wp2_with fail
              refine (SM.out).mono ?_
              rintro e wm ⟨rfl, bm⟩
              have bim := below_step bil bm (Nat.le_refl _)
              clear SM
              go_wp2_with fail
              go_roundw
              case rel => exact ⟨k + 1, yl, by omega, by omega, by go_num, below_step dS bim (Nat.le_refl _), KS.later bim, PS.below bim, fun h => HRW.out.2 h (hwt.out h)⟩
              case measure => simp [intOf] <;> omega
        · have b2f := alloc_two w11 (.cells #[.int .i64 0, .int .i64 fid, .bool rem, .slice A' n' c', .bool true] 53) (.cells #[.int .i64 fid, .bool rem, .slice A' n' c'] 51)
          have KPF := KP.alloc (.cells #[.int .i64 fid, .bool rem, .slice A' n' c'] 51)
          have KF := Blk.new (w11.alloc (.cells #[.int .i64 0, .int .i64 fid, .bool rem, .slice A' n' c', .bool true] 53)) 51 #[.int .i64 fid, .bool rem, .slice A' n' c']
          rw [World.size_alloc] at KF
          have FPF := KPF.five
          obtain ⟨_, _, _, ⟨_, _, _, _, hrm3⟩, _⟩ := PK.below b2f
          have RID := Lib.hid (RRId_any v1 hv hbad hrm3.blk)
          clear hrm3 ba
          go_wp2_with fail
          refine (RID.out).mono ?_
          rintro e w12 ⟨rfl, b12⟩
          have KF2 := KF.later b12
          have FF2 := KF2.three
          have bw : Below w11.heap.size w11 (w12.setCell ⟨w11.heap.size + 1, 0, none⟩ (.int .i64 (Cob.pdo v1 : Int))) := (below_step b2f b12 (Nat.le_refl _)).setCell (p := ⟨w11.heap.size + 1, 0, none⟩) (Nat.le_succ _) _
          have KFw : Blk (w12.setCell ⟨w11.heap.size + 1, 0, none⟩ (.int .i64 (Cob.pdo v1 : Int))) (w11.heap.size + 1) 51 #[.int .i64 (Cob.pdo v1 : Int), .bool rem, .slice A' n' c'] := KF2.set_ 0 _
          clear RID KF KPF FPF b2f b12 KF2
          have PF := PK.below bw
          have dF := below_step dk bw (Nat.le_refl _)
          have KFc := KK.later bw
          have rF := hrb.below (bw.mono dk.size)
          have hpl0 := PK.lt
          have RC := Pl.recv PF hdd hwl rF dF.size (by omega) (Cob.pdo v1 : Int) rem
          have RRC := fun (w : World) (wp : List Dc.Vl) (P : Pl w w3.heap.size w7.heap.size gd gr p gp r v1 t ws wp waits D) (hr : RB w W.heap.size A' n' c' dat) (hB : W.heap.size ≤ w.heap.size) => Pl.rrecv P hv hbad hwl hr hB (by omega) (Cob.pdo v1 : Int) rem
          have hsm := recv_small (l := D.l) (v := v1) (t := t) (ws := ws) (waits := waits) (fid := (Cob.pdo v1 : Int)) (rem := rem) (b := dat)
          have hrw := recv_waits (l := D.l) (v := v1) (t := t) (ws := ws) (waits := waits) (fid := (Cob.pdo v1 : Int)) (rem := rem) (b := dat)
          unfold PlOut at RC RRC
          generalize Rp.recvS D.l v1 t ws waits (Cob.pdo v1 : Int) rem dat = rr at *
          obtain ⟨xl, xc, yl⟩ := rr
          dsimp only at RC RRC hsm hrw
          have HRW := Lib.hid hrw
          have HSM := Lib.hid hsm
          replace RC := Lib.hid RC; replace RRC := Lib.hid RRC
          have hxc : (xc != xc) = false := by simp
          have hzw := bw.size
          have FF := KFw.three
          clear hrw hsm PK KK hrb
          go_wp2_with fail
          refine (RC.out).mono ?_
          rintro e w13 ⟨A8, c8, rfl, o8, M8, P13⟩
          have hpl3 := P13.lt
          have bF : Below W.heap.size _ w13 := M8.below dF.size fun q e => by subst e; omega
          have d13 := dF.trans bF
          have K13 := KFc.mv M8 (by omega)
          have KF13 := KFw.mv M8 (by omega)
          have r13 := rF.below bF
          have hzw3 := Nat.le_trans hzw M8.size
          have o8' := OS.more o8 hzw fun _ _ h => h.more hzw
          have b14 := alloc_one w13 (.cells #[.slice A8 xl.length c8, .int .i64 xc] 57)
          have KX := Blk.new w13 57 #[.slice A8 xl.length c8, .int .i64 xc]
          have P14 := P13.below b14
          have d14 := below_step d13 b14 (Nat.le_refl _)
          have RR := Lib.hid (RRC.out _ _ P14 (r13.below (b14.mono d13.size)) d14.size)
          have o84 := o8'.below b14 (R' := VlW (w13.alloc (.cells #[.slice A8 xl.length c8, .int .i64 xc] 57)) _) fun _ _ h => h.below b14
          have hoR := fun (w : World) (hm : Mv (fun q => q = r) (w13.alloc (.cells #[.slice A8 xl.length c8, .int .i64 xc] 57)) w) => P14.osR o84 hm
          have K14 := K13.later b14
          have FF14 := (KF13.later b14).three
          clear RC RRC o8 o8' M8 PF KFc KFw rF FF K13 KF13 r13 bF
          go_wp2_with fail
          refine (RR.out).mono ?_
          rintro e w15 ⟨A9, c9, rfl, o9, M9, P15⟩
          have d15 := d14.trans (M9.below d14.size fun q e => by subst e; omega)
          have K15 := K14.mv M9 (by omega)
          have KX15 := KX.mv M9 (by omega)
          have o8 := hoR _ M9
          have b16 := alloc_one w15 (.cells #[.slice A9 xl.length c9, .int .i64 xc] 59)
          have KY := Blk.new w15 59 #[.slice A9 xl.length c9, .int .i64 xc]
          have KX16 := KX15.later b16
          have o86 := o8.below b16 (R' := VlW (w15.alloc (.cells #[.slice A9 xl.length c9, .int .i64 xc] 59)) _) fun _ _ h => h.below b16
          have o96 := o9.below b16 (R' := VlW (w15.alloc (.cells #[.slice A9 xl.length c9, .int .i64 xc] 59)) _) fun _ _ h => h.below b16
          have P16 := P15.below b16
          have d16 := below_step d15 b16 (Nat.le_refl _)
          have K16 := K15.later b16
          have FX := KX16.two
          have FY := KY.two
          have hzw5 : w11.heap.size ≤ w15.heap.size := Nat.le_trans hzw3 (Nat.le_trans b14.size M9.size)
          have SM := Lib.hid (VSame_any _ (show RVl (w15.alloc (.cells #[.slice A9 xl.length c9, .int .i64 xc] 59)) (w15.alloc (.cells #[.slice A9 xl.length c9, .int .i64 xc] 59)).heap.size (w15.alloc (.cells #[.slice A9 xl.length c9, .int .i64 xc] 59)).heap.size A8 xl.length c8 xl from o86.rs.imp fun _ _ h => h.vlp31) (show RVl (w15.alloc (.cells #[.slice A9 xl.length c9, .int .i64 xc] 59)) (w15.alloc (.cells #[.slice A9 xl.length c9, .int .i64 xc] 59)).heap.size (w15.alloc (.cells #[.slice A9 xl.length c9, .int .i64 xc] 59)).heap.size A9 xl.length c9 xl from o96.rs.imp fun _ _ h => h.vlp31) (Nat.le_refl _) (Nat.le_refl _) (Nat.le_refl _) (Nat.le_refl _))
          clear RR hoR P14 K14 FF14 M9 o8 o9 o84 KX P13 P15 K15 KX15
          go_wp2_with fail
          refine (SM.out).mono ?_
          rintro e w17 ⟨rfl, b17⟩
          have P17 := P16.below b17
          have K17 := K16.later b17
          have d17 := below_step d16 b17 (Nat.le_refl _)
          have KX17 := KX16.later b17
          have FX7 := KX17.two
          have FY7 := (KY.later b17).two
          have o87 := o86.below b17 (R' := VlW w17 _) fun _ _ h => h.below b17
          have hzw7 : w11.heap.size ≤ w17.heap.size := Nat.le_trans hzw5 (Nat.le_trans b16.size b17.size)
          have hcp : xl.length ≤ c8 ∧ c8 ≤ 9223372036854775807 := by obtain ⟨zs, z1, _⟩ := o87; exact ⟨z1.rv.le, z1.rv.cap⟩
          obtain ⟨hcp1, hcp2⟩ := hcp
          clear SM FX FY P16 K16 KX16 KY o86 o96 b16
          go_wp2_with fail
          clear FX7 FY7
          go_loopw [20] (fun i w => ∃ j : Nat, j ≤ xl.length ∧ i = .int .i64 j ∧ Below w11.heap.size w17 w ∧ SpU w17 w ∧ (xl.length = 0 → w = w17)) (fun i _ => xl.length - (intOf i).toNat)
          case atStart => exact ⟨0, by omega, rfl, Below.refl _ _, SpU.refl _, fun _ => rfl⟩
          case round =>
            obtain ⟨j, hj, rfl, bb, hsp, hx⟩ := hrel
            have HX := Lib.hid hx
            clear hx
            have KXs := hsp.rest _ _ _ (by decide) KX17
            have FXs := KXs.two
            by_cases hlt : j < xl.length
            · have hf : xl[j]? = some (xl.getD j vl0) := by simp [List.getD, List.getElem?_eq_getElem hlt]
              obtain ⟨zs, z1, z2⟩ := o87
              obtain ⟨Az, nz, cz, ez, ow⟩ := z2.2 j _ hf
              have z1' := z1.sp hsp (by decide)
              obtain ⟨bq, oq, e3, hbq, hcq⟩ := z1'.rv.at_ (by omega)
              subst e3
              have q2' : wr.cell? ⟨bq, oq + j * 3 + 2, none⟩ = some (.slice Az nz cz) := by
                have h5 : (zs.drop (j * 3))[2]? = some (.slice Az nz cz) := by
                  have h6 : ((zs.drop (j * 3)).take 3)[2]? = some (.slice Az nz cz) := by rw [ez]; rfl
                  rw [List.getElem?_take] at h6
                  simpa using h6
                rw [List.getElem?_drop] at h5
                have := hcq _ _ h5
                rwa [← Nat.add_assoc] at this
              have wbz := (ow.wb).sp hsp
              have hnz : nz ≤ 9223372036854775807 := Nat.le_trans wbz.le wbz.cap
              have hdz := HSM.out _ (List.mem_of_getElem? hf)
              have hlz := ow.len
              have hzr := Nat.le_trans hzw7 hsp.size
              have SP := Lib.hid (Spoil_wb wr wbz (by omega) hzr)
              clear ow z1 z2 ez z1' hcq hdz hlz hf KXs KX17 P17 K17
              go_wp2_with fail
              refine (SP.out).mono ?_
              rintro e w18 ⟨rfl, b18, sp18, _⟩
              go_wp2_with fail
              go_roundw
              case rel => exact ⟨j + 1, by omega, by go_num, bb.trans b18, hsp.trans sp18, fun h => absurd h (by omega)⟩
              case measure => simp [intOf] <;> omega
            · obtain rfl : j = xl.length := by omega
              have PS : Pl wr w3.heap.size w7.heap.size gd gr p gp r v1 t ws yl yl D := by
                by_cases ht : t ≤ 240
                · have hx0 := HRW.out.1 ht
                  rw [HX.out (by rw [hx0]; rfl)]
                  exact P17
                · have hy0 := HRW.out.2 (by omega) (hwt.out (by omega))
                  subst hy0
                  exact P17.spoil (by omega) bb hsp
              have KS := K17.mv (Mv.of_below bb) (by have := dk.size; omega)
              have dS := d17.trans (bb.mono dk.size)
              clear P17 K17 KX17 KXs o87 bb hsp
              obtain ⟨⟨Fd, gv', lc', vc', la', vA', xs', vs', dD, _⟩, ⟨Fr, gvr', lcr', vcr', lA', vAr', xsr', vsr', dR, _⟩, ⟨Aw', cw', Av', cv', hpm⟩, ⟨Awr', cwr', Avr', cvr', hrmm⟩, _⟩ := id PS
              have ID := Lib.hid (RpId_any hpm.blk)
              have RID := Lib.hid (RRId_any v1 hv hbad hrmm.blk)
              have VD := Lib.hid (fun (w : World) (hb : Below wr.heap.size wr w) => dVals_any (dD.below hb) hvv)
              have VR := Lib.hid (fun (w : World) (hb : Below wr.heap.size wr w) => rVals_any (dR.below hb) hvv)
              have hpp : ((Cob.pdo v1 : Int) != (Cob.pdo v1 : Int)) = false := by simp
              unfold ValsP at VD VR
              clear dD dR hpm hrmm
              go_wp2_with fail
              refine (ID.out).mono ?_
              rintro e _ ⟨rfl, rfl⟩
              go_wp2_with fail
              refine (RID.out).mono ?_
              rintro e wi ⟨rfl, bi⟩
              go_wp2_with fail
              refine (VD.out _ bi).mono ?_
              rintro e wj ⟨Aj, cj, rfl, oj, bj⟩
              have bij := below_step bi bj (Nat.le_refl _)
              go_wp2_with fail
              refine (VR.out _ bij).mono ?_
              rintro e wl ⟨Al, cl, rfl, ol, bl⟩
              have bil := below_step bij bl (Nat.le_refl _)
              have oj' := oj.below bl (R' := VlW wl _) fun _ _ h => h.below bl
              have SM := Lib.hid (VSame_any wl (show RVl wl wl.heap.size wl.heap.size Aj D.l.length cj (Dc.valuesS D) from oj'.rs.imp fun _ _ h => h.vlp31) (show RVl wl wl.heap.size wl.heap.size Al D.l.length cl (Dc.valuesS D) from ol.rs.imp fun _ _ h => h.vlp31) (Nat.le_refl _) (Nat.le_refl _) (Nat.le_refl _) (Nat.le_refl _))
              clear oj oj' ol VD VR ID RID
              go_wp2_with fail
              refine (SM.out).mono ?_
              rintro e wm ⟨rfl, bm⟩
              have bim := below_step bil bm (Nat.le_refl _)
              clear SM
              go_wp2_with fail
              go_roundw
              case rel => exact ⟨k + 1, yl, by omega, by omega, by go_num, below_step dS bim (Nat.le_refl _), KS.later bim, PS.below bim, fun h => HRW.out.2 h (hwt.out h)⟩
              case measure => simp [intOf] <;> omega
end Go.Proofs.YtkddillihhjghaaGreat
