/-
  Walk: TpdoPlays.
  Conditions: none.
-/
import Derived.Test.YtbmocffnnlfnjaaGreatJ04
import Derived.Test.YtbmocffnnlfnjaaGreatJ05
import Derived.Test.YtbmocffnnlfnjaaGreatJ25
import Derived.Test.YtbmocffnnlfnjaaGreatJ26
import Derived.Deep.DeepCutAuto
import Derived.Deep.CutBlock
namespace Go.Proofs.YtbmocffnnlfnjaaGreat
set_option linter.unusedVariables false
set_option linter.unusedSimpArgs false
open Go.ChangeShapes Go.WideShapes Go.ChangeAt Go.RowKit Go.Sort
theorem one_of_out {v : Nat} {o : Option (List UInt8)} {x : Bool × Tp.St} : (outT v o x).length ≤ 1 := by
  unfold outT framesS
  repeat' split
  all_goals simp
/-- Between the switch and the rest of a round. -/
def TPlayRel (W : World) (case : Array Value) (p gd r gr v : Nat) (t inh ev : Int) (ws : List Nat) (l : List Ent.En) (v17 v18 : Value) (w : World) : Prop :=
  ∃ (L : List Can.Fr) (A A' : Option Addr) (c c' base : Nat) (s : Tp.St) (D : Dc.Dic), v17 = .slice A L.length c ∧ v18 = .slice A' L.length c' ∧ Below W.heap.size W w ∧ Tw w W.heap.size base base p gd r gr v t inh ev ws s s D D ∧ base ≤ w.heap.size ∧ W.heap.size < base ∧ D.l = l ∧ Blk w W.heap.size 29 case ∧ OS (FrW w base) w base 60 3 A L.length c L ∧ OS (FrW w base) w base 60 3 A' L.length c' L ∧ ∀ f ∈ L, f.data.length ≤ 1000
set_option maxRecDepth 100000 in
set_option maxHeartbeats 16000000 in
theorem TpdoPlays_walk (W : World) {A0 A1 A2 : Option Addr} {n0 c0 n1 c1 n2 c2 v1 : Nat} {t inh ev : Int} {es : List Ent.En} {ws : List Nat} {ops : List TOp} (h0 : REn W W.heap.size W.heap.size A0 n0 c0 es) (hnm : ∀ e ∈ es, e.name.length ≤ 9223372036854775807) (hv : v1 < 4294967296) (h1 : RW W W.heap.size A1 n1 c1 ws) (hwl : ∀ x ∈ ws, x < 4294967296) (wt : (Lit.int .i64 t).wf = true ∧ (Lit.int .i64 inh).wf = true ∧ (Lit.int .i64 ev).wf = true) (h2 : TOps W W.heap.size W.heap.size A2 n2 c2 ops) :
    Calls Tryz.prog 3 #[.agg #[.slice A0 n0 c0, .int .u32 (v1 : Int), .int .i64 t, .int .i64 inh, .int .i64 ev, .slice A1 n1 c1, .slice A2 n2 c2]] W fun e W' => e = .returned (.bool true) ∧ Below W.heap.size W W' := by
  have b0 := alloc_one W (.cells #[.slice A0 n0 c0, .int .u32 (v1 : Int), .int .i64 t, .int .i64 inh, .int .i64 ev, .slice A1 n1 c1, .slice A2 n2 c2] 29)
  have K := Blk.new W 29 #[.slice A0 n0 c0, .int .u32 (v1 : Int), .int .i64 t, .int .i64 inh, .int .i64 ev, .slice A1 n1 c1, .slice A2 n2 c2]
  have F0 := K.seven
  have LI := Lib.hid (light32_any (A1 := A1) (n1 := n1) (c1 := c1) v1 t inh ev _ (h0.below b0 (Nat.le_refl _)) hnm (h2.below b0 (Nat.le_refl _)) b0.size)
  have hl1 := h1.len
  subst hl1
  go_enter Tryz.func3, Tryz.ntmps3
  go_wp2_with fail
  refine (LI.out).mono ?_
  rintro e w1 ⟨bl, rfl, b1, hbl⟩
  have d1 := below_step b0 b1 (Nat.le_refl _)
  have K1 := K.later b1
  have F1 := K1.seven
  clear F0 K b0 b1 LI
  cases bl
  · clear hbl
    go_wp2_with fail
    refine (known32_any _).mono ?_
    rintro e w9 ⟨rfl, b9⟩
    go_wp2_with fail
    go_ret
    exact ⟨rfl, below_step d1 b9 (Nat.le_refl _)⟩
  obtain ⟨_, hes, hn100, hops⟩ := hbl rfl
  clear hbl
  have hee : ∀ e ∈ es, e.name.length ≤ 1000000 ∧ e.dflt.length ≤ 1000000 := fun e he => by have := hes e he; omega
  have hdd : ∀ e ∈ es, e.dflt.length ≤ 1000000 := fun e he => (hee e he).2
  have hfine : (Dc.newS es).1 = 0 → Dc.Fine ⟨es, es.map (·.dflt)⟩ := fun h => Dc.Fine.new h (fun e he => by have := hes e he; omega)
  have ND := dNew_any w1 (h0.below d1 (Nat.le_refl _)) d1.size (Nat.le_refl _) hee
  have RD := fun (w : World) (hb : Below w1.heap.size w1 w) => rNew_any w (h0.below (below_step d1 hb (Nat.le_refl _)) (Nat.le_refl _)) (below_step d1 hb (Nat.le_refl _)).size (Nat.le_refl _) hee
  unfold NewPost at ND
  unfold RNewPost at RD
  clear hes hnm hee
  generalize hD : (⟨es, es.map (·.dflt)⟩ : Dc.Dic) = D at *
  have hDl : es = D.l := by rw [← hD]
  rw [hDl] at hdd
  clear hD hDl h0
  generalize Dc.newS es = nn at *
  obtain ⟨ne, np⟩ := nn
  dsimp only at ND RD hfine
  replace ND := Lib.hid ND; replace RD := Lib.hid RD
  have HOPS := Lib.hid hops
  clear hops
  by_cases hne : ne = 0
  case neg =>
    have hne2 : (ne == 0) = false := by simpa using hne
    have hne3 : (ne != 0) = true := by simpa using hne
    have hne4 : (ne == ne) = true := by simp
    have hne5 : (ne != ne) = false := by simp
    have HNE := Lib.hid hne
    clear hne
    go_wp2_with fail
    refine (ND.out).mono ?_
    rintro e w2 (⟨hx, _⟩ | ⟨_, b2, rfl⟩)
    case inl => exact absurd hx HNE.out
    have d2 := below_step d1 b2 (Nat.le_refl _)
    have F2 := (K1.later b2).seven
    clear F1
    go_wp2_with fail
    refine (RD.out _ b2).mono ?_
    rintro e w3 (⟨hx, _⟩ | ⟨_, b3, a, rfl⟩)
    case inl => exact absurd hx HNE.out
    have d3 := below_step d2 b3 (Nat.le_refl _)
    clear ND RD
    go_wp2_with fail
    refine (known32_any _).mono ?_
    rintro e w9 ⟨rfl, b9⟩
    go_wp2_with fail
    go_ret
    exact ⟨rfl, below_step d3 b9 (Nat.le_refl _)⟩
  subst hne
  go_wp2_with fail
  refine (ND.out).mono ?_
  rintro e w2 (⟨_, b2, gd, gv, lc, vc, la, vA, xs, vs, rfl, hd⟩ | ⟨hx, _⟩)
  case inr => exact absurd rfl hx
  replace hd := hd.cut
  replace hfine := hfine (by trivial)
  have d2 := below_step d1 b2 (Nat.le_refl _)
  have K2 := K1.later b2
  have F2 := K2.seven
  have hz1' : W.heap.size < w1.heap.size := K1.lt
  clear F1 K1
  go_wp2_with fail
  refine (RD.out _ b2).mono ?_
  rintro e w3 (⟨_, b3, gr, gvr, lcr, vcr, lA, vAr, xsr, vsr, rfl, hr⟩ | ⟨hx, _⟩)
  case inr => exact absurd rfl hx
  replace hr := hr.cut
  have hd3 := hd.below b3
  have hz12 := b2.size
  have hz23 := b3.size
  have d3 := below_step d2 b3 (Nat.le_refl _)
  have K3 := K2.later b3
  have F3 := K3.seven
  have GV := Lib.hid (fun w => given32_any v1 t inh ev A1 ws.length c1 w)
  clear F2 K2 ND RD hd b2 b3 d1 d2
  go_wp2_with fail
  refine (GV.out _).mono ?_
  rintro e w4 ⟨rfl, b4⟩
  have d4 := below_step d3 b4 (Nat.le_refl _)
  have b5 := alloc_two w4 (.cells #[.int .u32 (v1 : Int), .int .i64 t, .int .i64 inh, .int .i64 ev, .slice A1 ws.length c1] 39) (.cells #[] 23)
  have KO := (Blk.new w4 39 #[.int .u32 (v1 : Int), .int .i64 t, .int .i64 inh, .int .i64 ev, .slice A1 ws.length c1]).alloc (.cells #[] 23)
  have o5 : OV ((w4.alloc (.cells #[.int .u32 (v1 : Int), .int .i64 t, .int .i64 inh, .int .i64 ev, .slice A1 ws.length c1] 39)).alloc (.cells #[] 23)) w4.heap.size 23 1 (some ⟨w4.heap.size + 1, 0, none⟩) 0 0 [] := by
    have := OV.new (base := w4.heap.size) (e := 23) (size := 1) (w4.alloc (.cells #[.int .u32 (v1 : Int), .int .i64 t, .int .i64 inh, .int .i64 ev, .slice A1 ws.length c1] 39)) [] 0 rfl (by omega) (by simp)
    simpa only [World.size_alloc] using this
  have hWl := K3.lt
  have hz34 := b4.size
  have K5 := (K3.later b4).later b5
  have F5 := K5.seven
  have r5 := (h1.below d4).below (b5.mono d4.size)
  have hd4 := hd3.below b4
  have hr4 := hr.below b4
  have hz5 : w4.heap.size ≤ ((w4.alloc (.cells #[.int .u32 (v1 : Int), .int .i64 t, .int .i64 inh, .int .i64 ev, .slice A1 ws.length c1] 39)).alloc (.cells #[] 23)).heap.size := b5.size
  clear K3 hd3 hr GV
  go_wp2_with (at_builtin; refine wpList_app ett rfl (.tmp 54) (.tmp 57) rfl rfl rfl w4.heap.size o5 r5 (by intro u hu; obtain ⟨x, _, rfl⟩ := List.mem_map.1 hu; rfl) (by omega) (by omega) hz5 ?_; simp only [Nat.zero_add, List.nil_append]; intro A6 c6 w6 o6 g6 _; have b6 := grown_below g6 o5.lt hz5; have KO6 := KO.mv (Mv.of_grown g6) (by intro e; have e' : some w4.heap.size = some (w4.heap.size + 1) := e; simp at e'); have K6 := K5.mv (Mv.of_below b6) (by omega); have F6 := KO6.fiv; clear F5)
  have KO7 := KO6.set_ 4 (.slice A6 ws.length c6)
  have K7 := K6.mv (Mv.setCell w6 ⟨w4.heap.size, 4, none⟩ (.slice A6 ws.length c6)) (by show ¬ W.heap.size = w4.heap.size; omega)
  have o7 : OWt (w6.setCell ⟨w4.heap.size, 4, none⟩ (.slice A6 ws.length c6)) w4.heap.size A6 ws.length c6 ws := OV.off o6 KO6 (by decide)
  have b47 : Below w4.heap.size w4 (w6.setCell ⟨w4.heap.size, 4, none⟩ (.slice A6 ws.length c6)) := (b5.trans b6).setCell (p := ⟨w4.heap.size, 4, none⟩) (Nat.le_refl _) _
  clear o6 g6 b6 KO6 K6 F6 o5 b5 hz5 r5 K5 KO F3
  generalize w6.setCell ⟨w4.heap.size, 4, none⟩ (.slice A6 ws.length c6) = w7 at *
  have KO7' : Blk w7 w4.heap.size 39 #[.int .u32 (v1 : Int), .int .i64 t, .int .i64 inh, .int .i64 ev, .slice A6 ws.length c6] := KO7
  clear KO7
  have hz47 := b47.size
  have hd7 := hd4.below b47
  have hr7 := hr4.below b47
  have d7 := below_step d4 b47 (Nat.le_refl _)
  have F7 := K7.seven
  have FO7 := KO7'.fiv
  have RN := TpNew_any v1 hv t inh ev hd7 hdd o7.rw hwl (Nat.le_refl _)
  have RR := fun (w : World) (hb : Below w7.heap.size w7 w) => RTNew_any v1 hv t inh ev (hr7.below hb) (h1.below (below_step d7 hb (Nat.le_refl _))) (by omega) hwl (below_step d7 hb (Nat.le_refl _)).size
  have CK := fun (w : World) (hb : Below w7.heap.size w7 w) => TCheck_any v1 hv t inh ev (hd7.below hb) hdd (o7.rw.below hb) hwl hb.size
  have CR := fun (w : World) (hb : Below w7.heap.size w7 w) => RTCheck_any v1 hv t inh ev (hr7.below hb) (h1.below (below_step d7 hb (Nat.le_refl _))) hwl (below_step d7 hb (Nat.le_refl _)).size
  have hcp := Tp.check_parts (l := D.l) (w := v1) (t := t) (inh := inh) (ev := ev) (ws := ws)
  unfold TNewP at RN
  unfold RTNewP at RR
  generalize Tp.checkS D.l v1 t inh ev ws = ck at *
  replace RN := Lib.hid RN; replace RR := Lib.hid RR; replace CK := Lib.hid CK; replace CR := Lib.hid CR
  have HD7 := Lib.hid hd7; have HR7 := Lib.hid hr7
  have HCP := Lib.hid hcp
  clear hd4 hr4 hd7 hr7 b4 b47 hcp
  have hrow := OV.lt o7
  by_cases hck : ck = 0
  case neg =>
    have c2' : (ck == 0) = false := by simpa using hck
    have c3' : (ck != ck) = false := by simp
    have HCK := Lib.hid hck
    clear hck
    go_wp2_with fail
    refine (RN.out).mono ?_
    rintro e w8 (⟨hx, _⟩ | ⟨_, b8, rfl⟩)
    case inl => exact absurd hx HCK.out
    have F8 := (K7.later b8).seven
    clear F7 FO7
    go_wp2_with fail
    refine (RR.out _ b8).mono ?_
    rintro e w9 ⟨r, Awr, cwr, rfl, b9, hrm⟩
    have b79 := below_step b8 b9 (Nat.le_refl _)
    have FO9 := (KO7'.later b79).fiv
    have F9 := (K7.later b79).seven
    have g0 := cell_regrown FO9.1.1
    have g1 := cell_regrown FO9.1.2.1
    have g2 := cell_regrown FO9.1.2.2.1
    have g3 := cell_regrown FO9.1.2.2.2.1
    have g4 := cell_regrown FO9.1.2.2.2.2
    have k1 := cell_regrown F9.1.2.1
    have k2 := cell_regrown F9.1.2.2.1
    have k3 := cell_regrown F9.1.2.2.2.1
    have k4 := cell_regrown F9.1.2.2.2.2.1
    have k5 := cell_regrown F9.1.2.2.2.2.2.1
    have CKq := Lib.hid (fun d os => Calls.regrown_of (CK.out _ (below_step b79 (below_regrown w9 d os) (Nat.le_refl _))))
    have CRq := Lib.hid (fun d os => Calls.regrown_of (CR.out _ (below_step b79 (below_regrown w9 d os) (Nat.le_refl _))))
    clear CK CR RN RR F8 FO9 F9
    go_wp2_with fail
    refine wp_region_quiet_below (by kernel_rfl) (by kernel_rfl) ?_
    repeat (go_big_quiet_step (first | with_reducible exact CKq.out _ _ | with_reducible exact CRq.out _ _))
    refine wpQuiet_nil ?_
    intro _ hw'
    obtain ⟨⟨dq, osq⟩, hw''⟩ := hw'
    subst hw''
    dsimp only
    have b10 := below_step b79 (below_regrown w9 dq osq) (Nat.le_refl _)
    generalize grow (redrawn w9 dq) osq = w10 at *
    have KO10 := KO7'.later b10
    have K10 := K7.later b10
    have ov10 := OV.below o7 b10
    have d10 := below_step d7 b10 (Nat.le_refl _)
    have hW4 : W.heap.size < w4.heap.size := by omega
    clear g0 g1 g2 g3 g4 k1 k2 k3 k4 k5 CKq CRq b10 b79 b8 b9 KO7' K7 o7 hrm
    go_wp2_with fail
    go_loopw [14] (fun i wr => ∃ k : Nat, k ≤ ws.length ∧ i = .int .i64 k ∧ Mv (fun q => w4.heap.size ≤ q ∧ q < w7.heap.size) w10 wr ∧ Blk wr w4.heap.size 39 #[.int .u32 (v1 : Int), .int .i64 t, .int .i64 inh, .int .i64 ev, .slice A6 ws.length c6] ∧ ∃ xs, OV wr w4.heap.size 23 1 A6 ws.length c6 xs) (fun i _ => ws.length - (intOf i).toNat)
    case atStart => exact ⟨0, by omega, rfl, Mv.refl _ _, KO10, _, ov10⟩
    case round =>
      obtain ⟨k, hk, rfl, hm, hko, xs1, hov⟩ := hrel
      have hlc := hov.rv.cap
      have hle := hov.rv.le
      by_cases hlt : k < ws.length
      · obtain ⟨g6, rfl, hg6, hgl⟩ := OV.head hov (by omega)
        have hl6 := (hrow g6 rfl).2
        have hcell := World.ownsRow.cellAt hov k (by omega)
        have hxl := hov.1
        rw [show xs1[k]? = some (xs1.getD k (.int .u32 0)) by simp [List.getD, List.getElem?_eq_getElem (show k < xs1.length by omega)]] at hcell
        have hfree := OV.free hov k
        have hov2 := OV.set hov k (.int .u32 1)
        have m2 : Mv (fun q => q = g6) wr (wr.setCell ⟨g6, k, none⟩ (.int .u32 1)) := Mv.setCell wr ⟨g6, k, none⟩ _
        have hko2 := hko.mv m2 (fun e => own_blk_ne hov hko (by decide) (by rw [show (w4.heap.size) = g6 from e]; rfl))
        have FK := hko.fiv
        have hm2 := hm.trans m2 (fun b _ e => by subst e; exact ⟨hg6, hl6⟩)
        generalize xs1.getD k (.int .u32 0) = u0 at *
        clear hov hko hm m2 KO10 ov10
        go_wp2_with fail
        go_roundw
        case rel => exact ⟨k + 1, by omega, by go_num, hm2, hko2, _, hov2.1⟩
        case measure => simp [intOf] <;> omega
      · obtain rfl : k = ws.length := by omega
        have FK := hko.fiv
        have d11 := d10.trans (hm.below d10.size fun q e => by omega)
        have K11 := K10.mv hm (by omega)
        have FC := K11.seven
        clear hov hm hko K10 ov10 KO10
        go_wp2_with fail
        go_loopw [15] (fun i w => i = .int .i64 0 ∧ w = wr) (fun _ _ => 0)
        case atStart => exact ⟨rfl, rfl⟩
        case round =>
          obtain ⟨rfl, rfl⟩ := hrel
          by_cases hn2 : n2 = 0
          · subst hn2
            go_wp2_with fail
            refine (known32_any _).mono ?_
            rintro e w13 ⟨rfl, b13⟩
            go_wp2_with fail
            go_ret
            exact ⟨rfl, below_step d11 b13 (Nat.le_refl _)⟩
          · have hn2' : (0 : Int) < (n2 : Int) := by omega
            go_wp2_with fail
            refine (known32_any _).mono ?_
            rintro e w13 ⟨rfl, b13⟩
            go_wp2_with fail
            go_ret
            exact ⟨rfl, below_step d11 b13 (Nat.le_refl _)⟩
  subst hck
  obtain ⟨hpl0, hkind, hmc⟩ := HCP.out rfl
  have hbad := Cob.place_bad hpl0
  clear HCP hpl0
  go_wp2_with fail
  refine (RN.out).mono ?_
  rintro e w8 (⟨_, b8, p, Aw, cw, rfl, hp⟩ | ⟨hx, _⟩)
  case inr => exact absurd rfl hx
  have F8 := (K7.later b8).seven
  clear F7 FO7
  go_wp2_with fail
  refine (RR.out _ b8).mono ?_
  rintro e w9 ⟨r, Awr, cwr, rfl, b9, hrm⟩
  have b79 := below_step b8 b9 (Nat.le_refl _)
  have FO9 := (KO7'.later b79).fiv
  have F9 := (K7.later b79).seven
  have g0 := cell_regrown FO9.1.1
  have g1 := cell_regrown FO9.1.2.1
  have g2 := cell_regrown FO9.1.2.2.1
  have g3 := cell_regrown FO9.1.2.2.2.1
  have g4 := cell_regrown FO9.1.2.2.2.2
  have k1 := cell_regrown F9.1.2.1
  have k2 := cell_regrown F9.1.2.2.1
  have k3 := cell_regrown F9.1.2.2.2.1
  have k4 := cell_regrown F9.1.2.2.2.2.1
  have k5 := cell_regrown F9.1.2.2.2.2.2.1
  have CKq := Lib.hid (fun d os => Calls.regrown_of (CK.out _ (below_step b79 (below_regrown w9 d os) (Nat.le_refl _))))
  have CRq := Lib.hid (fun d os => Calls.regrown_of (CR.out _ (below_step b79 (below_regrown w9 d os) (Nat.le_refl _))))
  clear CK CR RN RR F8 FO9 F9
  go_wp2_with fail
  refine wp_region_quiet_below (by kernel_rfl) (by kernel_rfl) ?_
  repeat (go_big_quiet_step (first | with_reducible exact CKq.out _ _ | with_reducible exact CRq.out _ _))
  refine wpQuiet_nil ?_
  intro _ hw'
  obtain ⟨⟨dq, osq⟩, hw''⟩ := hw'
  subst hw''
  dsimp only
  have bq := below_regrown w9 dq osq
  have b10 := below_step b79 bq (Nat.le_refl _)
  have hW4 : W.heap.size < w4.heap.size := by omega
  have hz78 := b8.size
  have hz89 := b9.size
  have hz910 := bq.size
  have T1 := (Tl.new HD7.out (fun q hq => by have := hq.2; omega) b8 hp hfine hdd hwl (Tp.Ok.rest hkind)).below b9
  have T2 := Tr.new ((HR7.out).below b8) (fun q hq => by have := hq.2; omega) b9 hrm hfine hwl (Tp.Ok.rest hkind) hmc hv hbad
  have HT1 := Lib.hid (T1.below bq)
  have HT2 := Lib.hid (T2.below bq)
  clear T1 T2
  generalize grow (redrawn w9 dq) osq = w10 at *
  have KO10 := KO7'.later b10
  have K10 := K7.later b10
  have ov10 := OV.below o7 b10
  have d10 := below_step d7 b10 (Nat.le_refl _)
  have hl2 : n2 ≤ 9223372036854775807 := h2.lt
  clear g0 g1 g2 g3 g4 k1 k2 k3 k4 k5 CKq CRq b10 b79 b8 b9 KO7' K7 o7 hp hrm bq HD7 HR7 hfine hmc
  go_wp2_with fail
  go_loopw [14] (fun i wr => ∃ k : Nat, k ≤ ws.length ∧ i = .int .i64 k ∧ Mv (fun q => w4.heap.size ≤ q ∧ q < w7.heap.size) w10 wr ∧ Blk wr w4.heap.size 39 #[.int .u32 (v1 : Int), .int .i64 t, .int .i64 inh, .int .i64 ev, .slice A6 ws.length c6] ∧ ∃ xs, OV wr w4.heap.size 23 1 A6 ws.length c6 xs) (fun i _ => ws.length - (intOf i).toNat)
  case atStart => exact ⟨0, by omega, rfl, Mv.refl _ _, KO10, _, ov10⟩
  case round =>
    obtain ⟨k, hk, rfl, hm, hko, xs1, hov⟩ := hrel
    have hlc := hov.rv.cap
    have hle := hov.rv.le
    by_cases hlt : k < ws.length
    · obtain ⟨g6, rfl, hg6, hgl⟩ := OV.head hov (by omega)
      have hl6 := (hrow g6 rfl).2
      have hcell := World.ownsRow.cellAt hov k (by omega)
      have hxl := hov.1
      rw [show xs1[k]? = some (xs1.getD k (.int .u32 0)) by simp [List.getD, List.getElem?_eq_getElem (show k < xs1.length by omega)]] at hcell
      have hfree := OV.free hov k
      have hov2 := OV.set hov k (.int .u32 1)
      have m2 : Mv (fun q => q = g6) wr (wr.setCell ⟨g6, k, none⟩ (.int .u32 1)) := Mv.setCell wr ⟨g6, k, none⟩ _
      have hko2 := hko.mv m2 (fun e => own_blk_ne hov hko (by decide) (by rw [show (w4.heap.size) = g6 from e]; rfl))
      have FK := hko.fiv
      have hm2 := hm.trans m2 (fun b _ e => by subst e; exact ⟨hg6, hl6⟩)
      generalize xs1.getD k (.int .u32 0) = u0 at *
      clear hov hko hm m2 KO10 ov10
      go_wp2_with fail
      go_roundw
      case rel => exact ⟨k + 1, by omega, by go_num, hm2, hko2, _, hov2.1⟩
      case measure => simp [intOf] <;> omega
    obtain rfl : k = ws.length := by omega
    have FK := hko.fiv
    have d11 := d10.trans (hm.below d10.size fun q e => by omega)
    have K11 := K10.mv hm (by omega)
    have TW11 : Tw wr W.heap.size wr.heap.size wr.heap.size p gd r gr v1 t inh ev ws (Tp.restS ev) (Tp.restS ev) D D := by
      have hzr := hm.size
      have H1 := HT1.out
      have H2 := HT2.out
      refine ⟨_, _, H1.mv hm fun q _ hq hq2 => ?_, H2.mv hm fun q _ hq hq2 => ?_, fun q hq hq2 => ?_, fun q hq => ?_, fun q hq => ?_⟩
      · have h3 := hq2.1; have h4 := hq2.2
        rcases hq with hq | hq <;> (have h1 := hq.1; have h2 := hq.2; omega)
      · have h3 := hq2.1; have h4 := hq2.2
        rcases hq with hq | hq <;> (have h1 := hq.1; have h2 := hq.2; omega)
      · rcases hq with hq | hq <;> rcases hq2 with hq2 | hq2 <;> (have h1 := hq.1; have h2 := hq.2; have h3 := hq2.1; have h4 := hq2.2; omega)
      · rcases hq with hq | hq <;> (have h1 := hq.1; have h2 := hq.2; omega)
      · rcases hq with hq | hq <;> (have h1 := hq.1; have h2 := hq.2; omega)
    clear hov hm hko K10 ov10 KO10 HT1 HT2
    generalize hcs : (#[.slice A0 n0 c0, .int .u32 (v1 : Int), .int .i64 t, .int .i64 inh, .int .i64 ev, .slice A1 ws.length c1, .slice A2 n2 c2] : Array Value) = cs at K11
    have HCS := Lib.hid hcs
    clear hcs
    go_wp2_with fail
    go_loopw [15] (fun v15 wr => ∃ (k : Nat) (s : Tp.St) (D' : Dc.Dic), k ≤ n2 ∧ k ≤ 100 ∧ v15 = .int .i64 k ∧ Below W.heap.size W wr ∧ Tw wr W.heap.size wr.heap.size wr.heap.size p gd r gr v1 t inh ev ws s s D' D' ∧ D'.l = D.l ∧ Blk wr W.heap.size 29 cs) (fun i _ => n2 - (intOf i).toNat)
    case atStart => exact ⟨0, _, D, by omega, by omega, rfl, d11, TW11, rfl, K11⟩
    case round =>
    clear d11 K11 TW11 FK d10 hrow hz12 hz23 hz34 hz47 hz78 hz89 hz910 hlt hle hlc
    obtain ⟨k, s, D', hk, hk100, rfl, dk, TK, hDl, KK⟩ := hrel
    obtain ⟨w11, hw11⟩ : ∃ w, w = wr := ⟨wr, rfl⟩
    subst hw11
    rw [← HCS.out] at KK
    have FC := KK.seven
    by_cases hkn : k < n2
    case neg =>
      obtain rfl : k = n2 := by omega
      go_wp2_with fail
      refine (known32_any _).mono ?_
      rintro e w13 ⟨rfl, b13⟩
      go_wp2_with fail
      go_ret
      exact ⟨rfl, below_step dk b13 (Nat.le_refl _)⟩
    by_cases hk6 : k < 100
    case neg =>
      obtain rfl : k = 100 := by omega
      have hn60 : (100 : Int) < (n2 : Int) := by omega
      go_wp2_with fail
      refine (known32_any _).mono ?_
      rintro e w13 ⟨rfl, b13⟩
      go_wp2_with fail
      go_ret
      exact ⟨rfl, below_step dk b13 (Nat.le_refl _)⟩
    obtain ⟨bo, oo, A', n', c', rfl, hbB, q0, q1, q2, q3, hrb⟩ := (h2.below dk (Nat.le_refl _)).at_ hkn
    have hd100 := HOPS.out k hkn hk6
    have hdat := hrb.len
    generalize ops.getD k top0 = opk at *
    obtain ⟨kd, ix, sb, dat⟩ := opk
    dsimp only at q0 q1 q2 q3 hrb hd100 hdat
    have hn' : n' ≤ 1000 := by omega
    clear hd100 hdat
    have ba := alloc_one w11 (.cells #[.int .i64 kd, .int .i64 ix, .int .i64 sb, .slice A' n' c'] 51)
    have KP := Blk.new w11 51 #[.int .i64 kd, .int .i64 ix, .int .i64 sb, .slice A' n' c']
    have HCB := Lib.hid (show TOps w11 W.heap.size W.heap.size (some ⟨bo, oo, none⟩) n2 c2 ops from h2.below dk (Nat.le_refl _))
    have TK1 := TK.below ba
    have dk1 := below_step dk ba (Nat.le_refl _)
    have KK1 := KK.later ba
    have FP := KP.four
    have hrb1 := hrb.below (ba.mono dk.size)
    have hB1 := dk1.size
    have hz112 := ba.size
    have hlt1 := TK1.lt
    have hWk := KK.lt
    go_upto_block 4 with fail
    go_cut [17, 18] (fun v17 v18 wx => TPlayRel W #[.slice A0 n0 c0, .int .u32 (v1 : Int), .int .i64 t, .int .i64 inh, .int .i64 ev, .slice A1 ws.length c1, .slice (some ⟨bo, oo, none⟩) n2 c2] p gd r gr v1 t inh ev ws D.l v17 v18 wx)
    case first =>
      clear TK dk KK q0 q1 q2 q3 hrb FC
      generalize w11.alloc (.cells #[.int .i64 kd, .int .i64 ix, .int .i64 sb, .slice A' n' c'] 51) = w12 at *
      by_cases z0 : kd = 0
      · subst z0
        have TP := TK1.tl (fun Fp h => Tl.trigger h)
        have TQ := fun (w : World) (T : Tw w W.heap.size w11.heap.size w11.heap.size p gd r gr v1 t inh ev ws (stT inh ev (Tp.trigS t s)) s D' D') => T.tr (fun Fr h => Tr.trigger h)
        have hsm := out_small (v := v1) (D := D') (ws := ws) (x := Tp.trigS t s)
        unfold TwOut at TP TQ
        generalize outT v1 (Tp.bytesS D' v1 ws) (Tp.trigS t s) = L at *
        replace TP := Lib.hid TP; replace TQ := Lib.hid TQ
        have HSM := Lib.hid hsm
        clear TK1 hsm
        go_wp2_with fail
        refine (TP.out).mono ?_
        rintro e w13 ⟨Aa, ca, rfl, oa, Ma, T13⟩
        have RR := Lib.hid (TQ.out w13 T13)
        have hl13 := T13.lt
        have hz13 := Ma.size
        have d13 := dk1.trans (Ma.below hB1 fun q e => by subst e; omega)
        have K13 := KK1.mv Ma (by omega)
        clear TP TQ
        go_wp2_with fail
        refine (RR.out).mono ?_
        rintro e w14 ⟨Ab, cb, rfl, ob, Mb, T14⟩
        have hz14 := Mb.size
        have oa' := OS.lowk oa Mb (fun q e => by subst e; omega)
        have ob' := OS.more ob hz13 fun f cs ⟨A, n, c, h1, h2⟩ => (⟨A, n, c, h1, h2.more hz13⟩ : FrW w14 w12.heap.size f cs)
        have d14 := d13.trans (Mb.below d13.size fun q e => by subst e; omega)
        have K14 := K13.mv Mb (by omega)
        clear RR oa ob
        go_wp2_with fail
        go_meet
        exact ⟨L, Aa, Ab, ca, cb, w12.heap.size, _, D', rfl, rfl, d14, T14.wide hz112 hz112, by omega, by omega, hDl, K14, oa', ob', HSM.out⟩
      by_cases z1 : kd = 1
      · subst z1
        have TP := TK1.tl (fun Fp h => Tl.tick h)
        have TQ := fun (w : World) (T : Tw w W.heap.size w11.heap.size w11.heap.size p gd r gr v1 t inh ev ws (stT inh ev (Tp.tickS t s)) s D' D') => T.tr (fun Fr h => Tr.tick h)
        have hsm := out_small (v := v1) (D := D') (ws := ws) (x := Tp.tickS t s)
        unfold TwOut at TP TQ
        generalize outT v1 (Tp.bytesS D' v1 ws) (Tp.tickS t s) = L at *
        replace TP := Lib.hid TP; replace TQ := Lib.hid TQ
        have HSM := Lib.hid hsm
        clear TK1 hsm
        go_wp2_with fail
        refine (TP.out).mono ?_
        rintro e w13 ⟨Aa, ca, rfl, oa, Ma, T13⟩
        have RR := Lib.hid (TQ.out w13 T13)
        have hl13 := T13.lt
        have hz13 := Ma.size
        have d13 := dk1.trans (Ma.below hB1 fun q e => by subst e; omega)
        have K13 := KK1.mv Ma (by omega)
        clear TP TQ
        go_wp2_with fail
        refine (RR.out).mono ?_
        rintro e w14 ⟨Ab, cb, rfl, ob, Mb, T14⟩
        have hz14 := Mb.size
        have oa' := OS.lowk oa Mb (fun q e => by subst e; omega)
        have ob' := OS.more ob hz13 fun f cs ⟨A, n, c, h1, h2⟩ => (⟨A, n, c, h1, h2.more hz13⟩ : FrW w14 w12.heap.size f cs)
        have d14 := d13.trans (Mb.below d13.size fun q e => by subst e; omega)
        have K14 := K13.mv Mb (by omega)
        clear RR oa ob
        go_wp2_with fail
        go_meet
        exact ⟨L, Aa, Ab, ca, cb, w12.heap.size, _, D', rfl, rfl, d14, T14.wide hz112 hz112, by omega, by omega, hDl, K14, oa', ob', HSM.out⟩
      by_cases z2 : kd = 2
      · subst z2
        have TP := TK1.tl (fun Fp h => Tl.pulse h)
        have TQ := fun (w : World) (T : Tw w W.heap.size w11.heap.size w11.heap.size p gd r gr v1 t inh ev ws (stT inh ev (Tp.pulseS t s)) s D' D') => T.tr (fun Fr h => Tr.pulse h)
        have hsm := out_small (v := v1) (D := D') (ws := ws) (x := Tp.pulseS t s)
        unfold TwOut at TP TQ
        generalize outT v1 (Tp.bytesS D' v1 ws) (Tp.pulseS t s) = L at *
        replace TP := Lib.hid TP; replace TQ := Lib.hid TQ
        have HSM := Lib.hid hsm
        clear TK1 hsm
        go_wp2_with fail
        refine (TP.out).mono ?_
        rintro e w13 ⟨Aa, ca, rfl, oa, Ma, T13⟩
        have RR := Lib.hid (TQ.out w13 T13)
        have hl13 := T13.lt
        have hz13 := Ma.size
        have d13 := dk1.trans (Ma.below hB1 fun q e => by subst e; omega)
        have K13 := KK1.mv Ma (by omega)
        clear TP TQ
        go_wp2_with fail
        refine (RR.out).mono ?_
        rintro e w14 ⟨Ab, cb, rfl, ob, Mb, T14⟩
        have hz14 := Mb.size
        have oa' := OS.lowk oa Mb (fun q e => by subst e; omega)
        have ob' := OS.more ob hz13 fun f cs ⟨A, n, c, h1, h2⟩ => (⟨A, n, c, h1, h2.more hz13⟩ : FrW w14 w12.heap.size f cs)
        have d14 := d13.trans (Mb.below d13.size fun q e => by subst e; omega)
        have K14 := K13.mv Mb (by omega)
        clear RR oa ob
        go_wp2_with fail
        go_meet
        exact ⟨L, Aa, Ab, ca, cb, w12.heap.size, _, D', rfl, rfl, d14, T14.wide hz112 hz112, by omega, by omega, hDl, K14, oa', ob', HSM.out⟩
      by_cases z3 : kd = 3
      · subst z3
        have TP := Lib.hid TK1.rest
        clear TK1
        go_wp2_with fail
        refine (TP.out).mono ?_
        rintro e w13 ⟨rfl, Ma, T13⟩
        have RR := Lib.hid T13.rrest
        have hz13 := Ma.size
        have d13 := dk1.trans (Ma.below hB1 fun q e => by subst e; omega)
        have K13 := KK1.mv Ma (by omega)
        clear TP
        go_wp2_with fail
        refine (RR.out).mono ?_
        rintro e w14 ⟨rfl, Mb, T14⟩
        have hz14 := Mb.size
        have d14 := d13.trans (Mb.below d13.size fun q e => by subst e; omega)
        have K14 := K13.mv Mb (by omega)
        clear RR
        go_wp2_with fail
        go_meet
        exact ⟨[], none, none, 0, 0, w14.heap.size, _, D', rfl, rfl, d14, T14.wide (by omega) (by omega), Nat.le_refl _, by omega, hDl, K14, OS.none_ _ _ _ _, OS.none_ _ _ _ _, fun f hf => by simp at hf⟩
      by_cases z4 : kd = 4
      · subst z4
        have hGb : ¬ (W.heap.size < w11.heap.size ∧ w11.heap.size < w11.heap.size) := fun h => absurd h.2 (Nat.lt_irrefl _)
        have v1' := cell_mv (G := fun q => W.heap.size < q ∧ q < w11.heap.size) FP.1.2.1 hGb
        have v2' := cell_mv (G := fun q => W.heap.size < q ∧ q < w11.heap.size) FP.1.2.2.1 hGb
        have v3' := cell_mv (G := fun q => W.heap.size < q ∧ q < w11.heap.size) FP.1.2.2.2 hGb
        have PK := (TK1.below (below_drew w12)).poke hz112 hz112 ix sb hrb1.drew hB1 hn'
        have PQ := fun (w : World) (T : Tw w W.heap.size w.heap.size w11.heap.size p gd r gr v1 t inh ev ws s s (Dc.pokeS D' ix sb dat) D') (hr : RB w W.heap.size A' n' c' dat) (hB : W.heap.size ≤ w.heap.size) (hz : w11.heap.size ≤ w.heap.size) => T.rpoke (Nat.le_refl _) hz ix sb hr hB hn'
        generalize Dc.mayS D'.l true ix sb dat = mc at *
        have hmc : (mc != mc) = false := by simp
        replace PK := Lib.hid PK; replace PQ := Lib.hid PQ
        clear TK1 FP
        go_wp2_with fail
        refine region_mv 99 (fun q => W.heap.size < q ∧ q < w11.heap.size) (by kernel_rfl) ?_
        refine phase_mv (by kernel_rfl) 3 (Mv.refl _ _).drew [0, 1, 3, 5, 8, 9, 11, 13, 2, 4, 6, 10, 12, 14] rfl (by kernel_rfl) ?_
        simp only [picks, nth]
        repeat (go_big_quiet_step (fail))
        refine wpQuiet_nil ?_
        refine phase_opL 7 2 rfl (by kernel_rfl) (by decide) ?_
        simp only [nth]
        go_wp2_with fail
        refine (PK.out).mono ?_
        rintro e w13 ⟨rfl, m13, T13⟩
        have M13 : Mv (fun q => W.heap.size < q ∧ q < w11.heap.size) w12 w13 := (Mv.of_new (below_drew w12) _).trans m13 fun _ _ h => h
        have hz13 := M13.size
        have d13 := dk1.trans (M13.below hB1 fun q e => by have := e.1; omega)
        have K13 := KK1.mv M13 (fun e => absurd e.1 (Nat.lt_irrefl _))
        have PR := Lib.hid (PQ.out w13 T13 (hrb1.below (M13.below hB1 fun q e => by have := e.1; omega)) d13.size (by omega))
        clear PK PQ
        go_wp2_with fail
        refine behind_mv M13 ?_
        refine phase_opL 15 1 rfl (by kernel_rfl) (by decide) ?_
        simp only [nth]
        go_wp2_with fail
        refine (PR.out).mono ?_
        rintro e w14 ⟨rfl, m14, T14⟩
        have M14 : Mv (fun q => W.heap.size < q ∧ q < w11.heap.size) w12 w14 := M13.trans m14 fun _ _ h => h
        have hz14 := m14.size
        have d14 := dk1.trans (M14.below hB1 fun q e => by have := e.1; omega)
        have K14 := KK1.mv M14 (fun e => absurd e.1 (Nat.lt_irrefl _))
        clear PR v1' v2' v3' K13 d13 m13 m14
        go_wp2_with fail
        refine behind_mv M14 ?_
        refine phase_mv (by kernel_rfl) 0 M14 [16] rfl (by kernel_rfl) ?_
        simp only [picks, nth]
        repeat (go_big_quiet_step (fail))
        refine wpQuiet_nil ?_
        refine phase_endL (by kernel_rfl) ?_
        go_wp2_with fail
        go_meet
        exact ⟨[], none, none, 0, 0, w14.heap.size, s, _, rfl, rfl, d14, T14.wide (by omega) (by omega), Nat.le_refl _, by omega, (Dc.poke_l _ _ _ _).trans hDl, K14, OS.none_ _ _ _ _, OS.none_ _ _ _ _, fun f hf => by simp at hf⟩
      · have e0' : (kd == 0) = false := by simpa using z0
        have e1' : (kd == 1) = false := by simpa using z1
        have e2' : (kd == 2) = false := by simpa using z2
        have e3' : (kd == 3) = false := by simpa using z3
        have e4' : (kd == 4) = false := by simpa using z4
        have v1' := cell_regrown FP.1.2.1
        have v2' := cell_regrown FP.1.2.2.1
        have TB := TK1.below (below_drew w12)
        have HP := TB.has ix sb
        have HR := TB.rhas ix sb
        generalize Tp.hasS ws ix sb = hb at *
        have hbb : (hb != hb) = false := by simp
        replace HP := Lib.hid HP; replace HR := Lib.hid HR
        clear z0 z1 z2 z3 z4 TB
        go_wp2_with fail
        refine region_later (by kernel_rfl) ?_
        refine phase_later (by kernel_rfl) 3 (below_drew _) [0, 1, 3, 6, 7, 9, 2, 4, 8, 10] rfl (by kernel_rfl) ?_
        simp only [picks, nth]
        repeat (go_big_quiet_step (fail))
        refine wpQuiet_nil ?_
        refine phase_op 5 2 rfl (by kernel_rfl) (by decide) ?_
        simp only [nth]
        go_wp2_with fail
        refine (HP.out).mono ?_
        rintro e _ ⟨rfl, rfl⟩
        go_wp2_with fail
        refine behind_later (below_drew w12) ?_
        refine phase_op 11 1 rfl (by kernel_rfl) (by decide) ?_
        simp only [nth]
        go_wp2_with fail
        refine (HR.out).mono ?_
        rintro e _ ⟨rfl, rfl⟩
        go_wp2_with fail
        refine behind_later (Below.refl _ _) ?_
        refine phase_later (by kernel_rfl) 0 (Below.refl _ _) [12] rfl (by kernel_rfl) ?_
        simp only [picks, nth]
        repeat (go_big_quiet_step (fail))
        refine wpQuiet_nil ?_
        refine phase_end (by kernel_rfl) ?_
        have d14 := below_step dk1 (below_drew w12) (Nat.le_refl _)
        go_wp2_with fail
        go_meet
        exact ⟨[], none, none, 0, 0, w12.drew.heap.size, s, D', rfl, rfl, d14, (TK1.below (below_drew w12)).wide hz112 hz112, Nat.le_refl _, KK1.lt, hDl, KK1.later (below_drew w12), OS.none_ _ _ _ _, OS.none_ _ _ _ _, fun f hf => by simp at hf⟩
    case rest =>
      clear TK TK1 hrb hrb1 KK KK1 FP KP ba q0 q1 q2 q3 FC dk dk1 hB1 hDl hz112 hlt1 hWk
      obtain ⟨L, Aa, Ab, ca, cb, base, s', D'', rfl, rfl, dc, TC, hbz, hWb, hDl', KC, oa, ob, hsm⟩ := hcut
      obtain ⟨wd, hwd⟩ : ∃ w, w = wc := ⟨wc, rfl⟩
      subst hwd
      have AL := Lib.hid (All_any wd oa.rf ob.rf (Nat.le_refl _) (Nat.le_refl _))
      have HSM := Lib.hid hsm
      clear ob hsm
      have hoa := Lib.hid oa
      clear oa
      go_wp2_with fail
      refine (AL.out).mono ?_
      rintro e w15 ⟨rfl, b15⟩
      have T15 := TC.below b15
      have ID := Lib.hid T15.id
      have RID := Lib.hid T15.rid
      have d15 := below_step dc b15 (Nat.le_refl _)
      have K15 := KC.later b15
      have hpp : ((Cob.pdo v1 : Int) != (Cob.pdo v1 : Int)) = false := by simp
      clear AL dc KC TC
      go_wp2_with fail
      refine (ID.out).mono ?_
      rintro e _ ⟨rfl, rfl⟩
      go_wp2_with fail
      refine (RID.out).mono ?_
      rintro e w16 ⟨rfl, b16⟩
      have T16 := T15.below b16
      have d16 := below_step d15 b16 (Nat.le_refl _)
      have K16 := K15.later b16
      have b1516 := below_step b15 b16 (Nat.le_refl _)
      have o16 := (hoa.out).below b1516 (R' := FrW w16 base) fun f cs ⟨A, n, c, h1, h2⟩ => ⟨A, n, c, h1, h2.below b1516⟩
      have hz16 := b1516.size
      clear ID RID T15 d15 K15 b15 b16 hoa b1516
      have hcp : L.length ≤ ca ∧ ca ≤ 9223372036854775807 := by obtain ⟨zs, z1, _⟩ := o16; exact ⟨z1.rv.le, z1.rv.cap⟩
      obtain ⟨hcp1, hcp2⟩ := hcp
      go_wp2_with fail
      go_loopw [19] (fun i w => ∃ j : Nat, j ≤ L.length ∧ i = .int .i64 j ∧ Below base w16 w ∧ SpU w16 w) (fun i _ => L.length - (intOf i).toNat)
      case atStart => exact ⟨0, by omega, rfl, Below.refl _ _, SpU.refl _⟩
      case round =>
        obtain ⟨j, hj, rfl, bb, hsp⟩ := hrel
        by_cases hlt : j < L.length
        · have hf : L[j]? = some (L.getD j Can.zero) := by simp [List.getD, List.getElem?_eq_getElem hlt]
          obtain ⟨zs, z1, z2⟩ := o16
          obtain ⟨Az, nz, cz, ez, ow⟩ := z2.2 j _ hf
          have z1' := z1.sp hsp (by decide)
          obtain ⟨bq, oq, e3, hbq, hcq⟩ := z1'.rv.at_ (by omega)
          subst e3
          have q2' : wr.cell? ⟨bq, oq + j * 3 + 2, none⟩ = some (.slice Az nz cz) := by
            have h5 : (zs.drop (j * 3))[2]? = some (.slice Az nz cz) := by
              have h6 : ((zs.drop (j * 3)).take 3)[2]? = some (.slice Az nz cz) := by rw [ez]; rfl
              rw [List.getElem?_take] at h6
              simpa using h6
            rw [List.getElem?_drop] at h5
            have := hcq _ _ h5
            rwa [← Nat.add_assoc] at this
          have wbz := ((OB.ow ow).wb).sp hsp
          have hnz : nz ≤ 9223372036854775807 := Nat.le_trans wbz.le wbz.cap
          have hdz := HSM.out _ (List.mem_of_getElem? hf)
          have hlz := ow.rb.len
          have hzr : base ≤ wr.heap.size := by have := hsp.size; omega
          have SP := Lib.hid (Spoil_wb wr wbz (by omega) hzr)
          clear ow z1 z2 ez z1' hcq hdz hlz hf K16 T16
          go_wp2_with fail
          refine (SP.out).mono ?_
          rintro e w18 ⟨rfl, b18, sp18, _⟩
          go_wp2_with fail
          go_roundw
          case rel => exact ⟨j + 1, by omega, by go_num, bb.trans b18, hsp.trans sp18⟩
          case measure => simp [intOf] <;> omega
        · obtain rfl : j = L.length := by omega
          have hzr := hsp.size
          have TS := T16.mv (Mv.of_below bb) (fun q h1 h2 h3 => by have h3' : base ≤ q := h3; omega)
          have KS := K16.mv (Mv.of_below bb) (by omega)
          have dS := d16.trans (bb.mono (by omega))
          clear T16 K16 o16 bb hsp
          go_wp2_with fail
          go_roundw
          case rel => exact ⟨k + 1, s', D'', by omega, by omega, by go_num, dS, TS.wide (by omega) (by omega), hDl', by rw [← HCS.out]; exact KS⟩
          case measure => simp [intOf] <;> omega
end Go.Proofs.YtbmocffnnlfnjaaGreat
