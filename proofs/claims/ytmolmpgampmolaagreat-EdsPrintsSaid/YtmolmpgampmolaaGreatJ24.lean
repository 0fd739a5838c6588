/-
  Texts joined: EdsTok, EdsBack, EdsRead, EdsAt, EdsEnds.
  Conditions: none.
-/
import Derived.Test.YtmolmpgampmolaaGreatJ19
import Derived.Test.YtmolmpgampmolaaGreatJ20
import Derived.Test.YtmolmpgampmolaaGreatJ23
import Derived.KernelRfl
/-
  Layer 17, plain laws: the tokens of a line.
  Conditions: none.
-/
namespace Go.Proofs.YtmolmpgampmolaaGreat.Lx
set_option linter.unusedVariables false
set_option linter.unusedSimpArgs false
open Ty (isD parN)
/-- A text's tokens, blanks ahead of it. -/
def Sk (l : List UInt8) (ts : List Tk) : Prop := Rd (skip false l) ts
theorem sk_nil : Sk [] [] := rfl
theorem sk_sp {l : List UInt8} {ts : List Tk} (h : Sk l ts) : Sk (32 :: l) ts := by
  unfold Sk
  rw [skip, if_pos (by decide)]
  exact h
theorem sk_tok {t : Tk} {b : List UInt8} {ts : List Tk} (h : tok (t.text ++ b) = (t, 0)) (hb : Sk b ts) : Sk (t.text ++ b) (t :: ts) := by
  have h0 : (tok (t.text ++ b)).2 = 0 := by rw [h]
  have hs : skip false (t.text ++ b) = t.text ++ b := by
    have := skip_tok (b := []) h0
    rwa [List.append_nil] at this
  unfold Sk
  rw [hs]
  have hpl := tok_pl (t.text ++ b)
  rw [h] at hpl
  refine ⟨?_, ?_, ?_⟩
  · intro e
    rw [e] at h0
    cases h0
  · rw [h, tk_pl _ hpl]
  · rw [List.drop_left' rfl]
    exact hb
theorem sk_both {a b : List UInt8} {ts us : List Tk} (h : Sk a ts) (hb : Sk b us) : Sk (a ++ 10 :: b) (ts ++ us) := by
  unfold Sk
  rw [skip_both]
  exact rd_both hb h
theorem tw_all {p : UInt8 → Bool} {b : List UInt8} (hb : fst p b = false) : ∀ {r : List UInt8}, r.all p = true → (r ++ b).takeWhile p = r
  | [], _ => by
    cases b with
    | nil => rfl
    | cons c b => rw [List.nil_append, List.takeWhile_cons, if_neg (by rw [show p c = false from hb]; simp)]
  | c :: r, h => by
    rw [List.all_cons, Bool.and_eq_true] at h
    rw [List.cons_append, List.takeWhile_cons, if_pos h.1, tw_all hb h.2]
theorem tok_word {c : UInt8} {r b : List UInt8} (hc : isL c = true) (hr : r.all inW = true) (hb : fst inW b = false) : tok (c :: r ++ b) = (⟨1, c :: r, 0, 0⟩, 0) := by
  show tokC c (r ++ b) = _
  unfold tokC
  rw [if_pos hc, tw_all hb hr]
theorem tok_hexd {d b : List UInt8} (hd : d.all isH = true) (h1 : fst isH d = true) (hl : d.length ≤ 4) (hb : fst isH b = false) : tok (48 :: 120 :: d ++ b) = (⟨3, 48 :: 120 :: d, hexV d, 0⟩, 0) := by
  show tokC 48 (120 :: (d ++ b)) = _
  have hf : fst isH (d ++ b) = true := by
    cases d with
    | nil => cases h1
    | cons x d => exact h1
  unfold tokC
  rw [if_neg (by decide), if_pos (by unfold tokX; rw [show (120 :: (d ++ b)).tail = d ++ b from rfl, hf]; rfl), show (120 :: (d ++ b)).tail = d ++ b from rfl, tw_all hb hd, if_neg (by omega)]
theorem digit_no : ∀ c : UInt8, isD c = true → isL c = false := by
  intro c h
  unfold isD at h
  unfold isL
  simp only [decide_eq_true_eq] at h
  exact decide_eq_false (by omega)
theorem tok_num {n : Int} {b : List UInt8} (h1 : -9223372036854775808 ≤ n) (h2 : n ≤ 9223372036854775807) (hb : fst isD b = false) (hx : fst (· == 120) b = false) : tok (Ty.numT n ++ b) = (⟨2, Ty.numT n, n, 0⟩, 0) := by
  have hp := Ty.parN_numT n h1 h2
  have hall := Ty.decF_all 20 n.natAbs
  have hne := Ty.decF_ne 19 n.natAbs
  unfold Ty.numT at hp ⊢
  generalize Ty.decF 20 n.natAbs = D at *
  cases D with
  | nil => exact absurd rfl hne
  | cons c r =>
    rw [List.all_cons, Bool.and_eq_true] at hall
    split at hp
    · rename_i hneg
      rw [if_pos hneg]
      show tokC 45 (c :: r ++ b) = _
      unfold tokC
      rw [if_neg (by decide), if_neg (by unfold tokX; simp), if_pos (by unfold tokD; rw [show fst isD (c :: r ++ b) = isD c from rfl, hall.1]; rfl), tw_all hb (by rw [List.all_cons, hall.1, hall.2]; rfl), hp, if_neg (by simp)]
    · rename_i hneg
      rw [if_neg hneg]
      show tokC c (r ++ b) = _
      have hx2 : fst (· == 120) (r ++ b) = false := by
        cases r with
        | nil => exact hx
        | cons y r =>
          have := hall.2
          rw [List.all_cons, Bool.and_eq_true] at this
          exact digit_x y this.1
      unfold tokC
      rw [if_neg (by rw [digit_no c hall.1]; simp), if_neg (by unfold tokX; rw [hx2]; simp), if_pos (by unfold tokD; rw [hall.1]; rfl), tw_all hb hall.2, hp, if_neg (by simp)]
theorem tok_mark {c : UInt8} (h : mark c = true) (b : List UInt8) : tok ([c] ++ b) = (⟨5, [c], 0, 0⟩, 0) := by
  obtain ⟨m1, m2, m3, m4, m5, m6⟩ := mark_no h
  show tokC c b = _
  unfold tokC
  rw [if_neg (by rw [m1]; simp), if_neg (by unfold tokX; rw [beq_eq_false_iff_ne.2 m3]; simp), if_neg (by unfold tokD; rw [m2, beq_eq_false_iff_ne.2 m4]; simp), if_neg m5, if_neg m6, if_pos h]
theorem tok_dots (b : List UInt8) : tok ([46, 46] ++ b) = (⟨5, [46, 46], 0, 0⟩, 0) := by
  show tokC 46 (46 :: b) = _
  unfold tokC
  rw [if_neg (by decide), if_neg (by unfold tokX; simp), if_neg (by unfold tokD; simp [isD]), if_neg (by decide), if_neg (by decide), if_neg (by decide), if_pos ⟨rfl, rfl⟩]
theorem qlen_esc (b : List UInt8) : ∀ s : List UInt8, qlen false (Ty.esc s ++ 34 :: b) = some ((Ty.esc s).length + 1)
  | [] => by
    show qlen false (34 :: b) = _
    rw [qlen, if_neg (by decide), if_pos rfl]
    rfl
  | c :: s => by
    have ih := qlen_esc b s
    have he : Ty.esc (c :: s) = (if Ty.mark c = true then [92, c] else [c]) ++ Ty.esc s := rfl
    rw [he]
    by_cases hm : Ty.mark c = true
    · rw [if_pos hm]
      show qlen false (92 :: c :: (Ty.esc s ++ 34 :: b)) = _
      rw [qlen, if_pos rfl, qlen, ih]
      simp only [Option.map_some, List.length_append, List.length_cons, List.length_nil]
      congr 1; omega
    · rw [if_neg hm]
      unfold Ty.mark at hm
      simp only [Bool.or_eq_true, beq_iff_eq, not_or] at hm
      show qlen false (c :: (Ty.esc s ++ 34 :: b)) = _
      rw [qlen, if_neg hm.2, if_neg hm.1, ih]
      simp only [Option.map_some, List.length_append, List.length_cons, List.length_nil]
      congr 1; omega
theorem tok_quo (s b : List UInt8) : tok (Ty.quo s ++ b) = (⟨4, Ty.quo s, 0, 0⟩, 0) := by
  have he : Ty.quo s ++ b = 34 :: (Ty.esc s ++ 34 :: b) := by unfold Ty.quo; simp
  rw [he]
  show tokC 34 (Ty.esc s ++ 34 :: b) = _
  unfold tokC
  rw [if_neg (by decide), if_neg (by unfold tokX; simp), if_neg (by unfold tokD; simp [isD]), if_pos rfl, qlen_esc]
  dsimp only
  rw [show Ty.esc s ++ 34 :: b = (Ty.esc s ++ [34]) ++ b by simp, List.take_left' (by simp)]
  rfl
theorem tok_sharp {d b : List UInt8} (hd : d.all isH = true) (hb : fst isH b = false) : tok (35 :: d ++ b) = (⟨4, 35 :: d, 0, 0⟩, 0) := by
  show tokC 35 (d ++ b) = _
  unfold tokC
  rw [if_neg (by decide), if_neg (by unfold tokX; simp), if_neg (by unfold tokD; simp [isD]), if_neg (by decide), if_pos rfl, tw_all hb hd]
theorem dig_isH : ∀ j : Fin 16, isH (Oct.dig j.val) = true := by decide
theorem dig_hv : ∀ j : Fin 16, hv (Oct.dig j.val) = j.val := by decide
theorem hexS_isH : ∀ l : List UInt8, (Oct.hexS l).all isH = true
  | [] => rfl
  | c :: l => by
    have hc := c.toNat_lt
    have e : Oct.hexS (c :: l) = Oct.dig (c.toNat / 16) :: Oct.dig (c.toNat % 16) :: Oct.hexS l := by simp [Oct.hexS]
    rw [e, List.all_cons, List.all_cons, hexS_isH l, dig_isH ⟨c.toNat / 16, by omega⟩, dig_isH ⟨c.toNat % 16, by omega⟩]
    rfl
theorem hex_index {x : Nat} (h : x < 65536) : hexV (Oct.hexS [UInt8.ofNat (x / 256), UInt8.ofNat (x % 256)]) = x := by
  have e1 : (UInt8.ofNat (x / 256)).toNat = x / 256 := by rw [UInt8.toNat_ofNat']; omega
  have e2 : (UInt8.ofNat (x % 256)).toNat = x % 256 := by rw [UInt8.toNat_ofNat']; omega
  have e : Oct.hexS [UInt8.ofNat (x / 256), UInt8.ofNat (x % 256)] = [Oct.dig (x / 256 / 16), Oct.dig (x / 256 % 16), Oct.dig (x % 256 / 16), Oct.dig (x % 256 % 16)] := by simp [Oct.hexS, e1, e2]
  have d1 := dig_hv ⟨x / 256 / 16, by omega⟩
  have d2 := dig_hv ⟨x / 256 % 16, by omega⟩
  have d3 := dig_hv ⟨x % 256 / 16, by omega⟩
  have d4 := dig_hv ⟨x % 256 % 16, by omega⟩
  dsimp only at d1 d2 d3 d4
  rw [e]
  unfold hexV
  simp only [List.foldl_cons, List.foldl_nil, d1, d2, d3, d4]
  omega
end Go.Proofs.YtmolmpgampmolaaGreat.Lx
/-
  Layer 17, plain laws: what was written is read as it was.
  Conditions: none.
-/
namespace Go.Proofs.YtmolmpgampmolaaGreat.Ed
set_option linter.unusedVariables false
set_option linter.unusedSimpArgs false
open Lx Ent
/-! ### places are of no weight -/
def z1 (t : Tk) : Tk := { t with pl := 0 }
theorem same_z : ∀ {l m : List Tk}, sameL false l m = true → l.map z1 = m.map z1
  | [], [], _ => rfl
  | [], _ :: _, h => by cases h
  | _ :: _, [], h => by cases h
  | t :: l, u :: m, h => by
    rw [sameL] at h
    simp only [Bool.not_false, Bool.true_or, Bool.and_true, Bool.and_eq_true] at h
    rw [List.map_cons, List.map_cons, same_z h.2]
    exact congrArg (· :: _) (like_iff.1 h.1)
section
variable {l m : List Tk}
theorem z_len (h : l.map z1 = m.map z1) : l.length = m.length := by have := congrArg List.length h; simpa using this
theorem z_get (h : l.map z1 = m.map z1) (p : Nat) : z1 (l.getD p tk0) = z1 (m.getD p tk0) := by
  have e : ∀ l : List Tk, z1 (l.getD p tk0) = (l.map z1).getD p tk0 := fun l => by
    simp only [List.getD_eq_getElem?_getD, List.getElem?_map]
    cases l[p]? <;> rfl
  rw [e, e, h]
theorem z_text (h : l.map z1 = m.map z1) (p : Nat) : (l.getD p tk0).text = (m.getD p tk0).text := by have := congrArg Tk.text (z_get h p); exact this
theorem hit_z (t : Tk) (k : Int) (x : List UInt8) : hitB t k x = hitB (z1 t) k x := rfl
theorem is_z (h : l.map z1 = m.map z1) (s : R) (k : Int) (x : List UInt8) : isS l s k x = isS m s k x := by
  unfold isS nextS
  rw [z_len h]
  by_cases hc : s.err ≠ 0 ∨ m.length ≤ s.pos
  · rw [if_pos hc, if_pos hc]
  · rw [if_neg hc, if_neg hc]
    show hitB _ _ _ = hitB _ _ _
    rw [hit_z, z_get h, ← hit_z]
theorem take_z (h : l.map z1 = m.map z1) (s : R) (k : Int) (x : List UInt8) : takeS l s k x = takeS m s k x := by unfold takeS; rw [is_z h]
theorem need_z (h : l.map z1 = m.map z1) (s : R) (k : Int) (x : List UInt8) : needR l s k x = needR m s k x := by unfold needR; rw [is_z h]
theorem needT_z (h : l.map z1 = m.map z1) (s : R) (k : Int) : z1 (needT l s k) = z1 (needT m s k) := by
  unfold needT
  rw [is_z h]
  split
  · exact z_get h _
  · rfl
theorem needx_z (h : l.map z1 = m.map z1) (s : R) (k : Int) : (needT l s k).text = (needT m s k).text := by have := congrArg Tk.text (needT_z h s k); exact this
theorem needn_z (h : l.map z1 = m.map z1) (s : R) (k : Int) : (needT l s k).n = (needT m s k).n := by have := congrArg Tk.n (needT_z h s k); exact this
theorem kindT_z (h : l.map z1 = m.map z1) (s : R) : kindT l s = kindT m s := by unfold kindT; rw [is_z h, z_text h]
theorem kindR_z (h : l.map z1 = m.map z1) (s : R) : kindR l s = kindR m s := by unfold kindR; rw [is_z h, z_text h]
theorem rightsT_z (h : l.map z1 = m.map z1) (s : R) : rightsT l s = rightsT m s := by unfold rightsT; rw [is_z h, is_z h, is_z h, is_z h]
theorem rightsR_z (h : l.map z1 = m.map z1) (s : R) : rightsR l s = rightsR m s := by unfold rightsR; rw [rightsT_z h]
theorem head_z (h : l.map z1 = m.map z1) (s : R) : headS l s = headS m s := by
  unfold headS
  simp only [need_z h, needx_z h, needn_z h, kindT_z h, kindR_z h]
theorem max_z (h : l.map z1 = m.map z1) (s : R) : maxT l s = maxT m s ∧ maxR l s = maxR m s := by unfold maxT maxR; simp only [need_z h, needn_z h, and_self]
theorem rng_z (h : l.map z1 = m.map z1) (s : R) : loT l s = loT m s ∧ hiT l s = hiT m s ∧ rngR l s = rngR m s := by unfold loT hiT rngR; simp only [need_z h, needn_z h, and_self]
theorem val_z (h : l.map z1 = m.map z1) (s : R) (k : Int) : valT l s k = valT m s k ∧ valR l s k = valR m s k := by unfold valT valR; simp only [need_z h, needx_z h, and_self]
theorem siz_z (h : l.map z1 = m.map z1) (s : R) : sizR l s = sizR m s := by unfold sizR; rw [head_z h, (max_z h _).2]
theorem acc_z (h : l.map z1 = m.map z1) (s : R) : accT l s = accT m s ∧ accR l s = accR m s := by unfold accT accR; rw [siz_z h, rightsT_z h, rightsR_z h]; exact ⟨rfl, rfl⟩
theorem map_z (h : l.map z1 = m.map z1) (s : R) : mapT l s = mapT m s ∧ mapR l s = mapR m s := by unfold mapT mapR; rw [(acc_z h s).2, is_z h, take_z h]; exact ⟨rfl, rfl⟩
theorem sto_z (h : l.map z1 = m.map z1) (s : R) : stoT l s = stoT m s ∧ stoR l s = stoR m s := by unfold stoT stoR; rw [(map_z h s).2, is_z h, take_z h]; exact ⟨rfl, rfl⟩
theorem in_z (h : l.map z1 = m.map z1) (s : R) : inB l s = inB m s := by unfold inB; rw [head_z h, (sto_z h s).2, is_z h]
theorem lim_z (h : l.map z1 = m.map z1) (s : R) : limR l s = limR m s := by unfold limR; rw [in_z h, (sto_z h s).2, (rng_z h _).2.2]
theorem ent_z (h : l.map z1 = m.map z1) (s : R) : entE l s = entE m s ∧ entV l s = entV m s ∧ entR l s = entR m s := by
  unfold entE entV entR entK
  rw [head_z h, (acc_z h s).1, (map_z h s).1, (sto_z h s).1, (sto_z h s).2, in_z h, lim_z h, (max_z h _).1, (rng_z h _).1, (rng_z h _).2.1, (val_z h _ _).1, (val_z h _ _).2]
  exact ⟨rfl, rfl, rfl⟩
/-- Entries and error do not hang on places. -/
theorem par_z (h : l.map z1 = m.map z1) (n n' : Nat) : ∀ (k p : Nat) (out : List En), (parF l n k p out).1 = (parF m n' k p out).1 ∧ (parF l n k p out).2.1 = (parF m n' k p out).2.1
  | 0, _, _ => ⟨rfl, rfl⟩
  | k + 1, p, out => by
    rw [parF, parF, z_len h, (ent_z h _).1, (ent_z h _).2.1, (ent_z h _).2.2]
    split
    · exact ⟨rfl, rfl⟩
    · split
      · exact ⟨rfl, rfl⟩
      · split
        · exact ⟨rfl, rfl⟩
        · exact par_z h n n' k _ _
end
theorem par_place {l : List Tk} {n : Nat} : ∀ (k p : Nat) (out : List En), (parF l n k p out).2.1 = 0 → (parF l n k p out).2.2 = 0
  | 0, _, _, _ => rfl
  | k + 1, p, out, h => by
    rw [parF] at h ⊢
    split at h
    · rename_i h1; rw [if_pos h1]
    · rename_i h1
      rw [if_neg h1]
      split at h
      · rename_i h2; exact absurd h h2
      · rename_i h2
        rw [if_neg h2]
        split at h
        · rename_i h3; exact absurd h h3
        · rename_i h3
          rw [if_neg h3]
          exact par_place k _ _ h
end Go.Proofs.YtmolmpgampmolaaGreat.Ed
/-
  Layer 17, plain laws: a line's tokens; they are read as the entry.
  Conditions: none.
-/
namespace Go.Proofs.YtmolmpgampmolaaGreat.Ed
set_option linter.unusedVariables false
set_option linter.unusedSimpArgs false
open Lx Ent
def rngB (e : En) : Bool := !((Ty.limS e.type).1 == e.low && (Ty.limS e.type).2.1 == e.high)
def ixT (e : En) : List UInt8 := Oct.hexS [UInt8.ofNat (e.index.toNat / 256), UInt8.ofNat (e.index.toNat % 256)]
def vtk (e : En) : Tk := if numB e.type = true then ⟨2, (Ty.showS e.type e.dflt).1, (Ty.decS e.type e.dflt).1, 0⟩ else ⟨4, (Ty.showS e.type e.dflt).1, 0, 0⟩
def mk (c : UInt8) : Tk := ⟨5, [c], 0, 0⟩
def wd (s : List UInt8) : Tk := ⟨1, s, 0, 0⟩
def nm (n : Int) : Tk := ⟨2, Ty.numT n, n, 0⟩
def tkVal (e : En) : List Tk := [mk 61, vtk e, mk 59]
def tkRng (e : En) : List Tk := if rngB e = true then [wd [105, 110], nm e.low, ⟨5, [46, 46], 0, 0⟩, nm e.high] else []
def tkSto (e : En) : List Tk := if e.store = true then [wd [115, 116, 111, 114, 101]] else []
def tkMap (e : En) : List Tk := if e.map = true then [wd [109, 97, 112]] else []
def tkMax (e : En) : List Tk := if numB e.type = true then [] else [mk 91, nm e.max, mk 93]
def tkE (e : En) : List Tk := [⟨3, 48 :: 120 :: ixT e, e.index, 0⟩, mk 58, nm e.sub, wd e.name, wd (Ty.kd e.type).name] ++ (tkMax e ++ (wd (wordS e.access) :: (tkMap e ++ (tkSto e ++ (tkRng e ++ tkVal e)))))
/-! ### written -/
theorem bits_num (t : Int) : numB t = true ↔ 0 < (Ty.kd t).bits := by
  unfold numB Ty.limS
  split
  · rename_i h; simp [h]
  · rename_i h
    split <;> simp <;> omega
theorem show_ok {e : En} (h : rightS e = 0) : Ty.checkS e.type 256 e.dflt = 0 := by
  have h2 := (right_more h).2.2.2.2.2.2.2.2
  rw [show_val] at h2
  split at h2
  · exact h2
  · rename_i h3; simpa using h3
theorem tok_val {e : En} (h : rightS e = 0) (b : List UInt8) : tok ((vtk e).text ++ ([59] ++ b)) = (vtk e, 0) := by
  have hc := show_ok h
  have hv : (Ty.showS e.type e.dflt).1 = if 0 < (Ty.kd e.type).bits then Ty.numT (Ty.decS e.type e.dflt).1 else if e.type = 9 then Ty.quo e.dflt else 35 :: Oct.hexS e.dflt := by
    rw [show_val, if_neg (by rw [hc]; simp)]
    repeat' split
    all_goals rfl
  unfold vtk
  by_cases hb : 0 < (Ty.kd e.type).bits
  · rw [if_pos ((bits_num _).2 hb)]
    rw [if_pos hb] at hv
    dsimp only
    rw [hv]
    exact tok_num (dec_range _ _).1 (dec_range _ _).2 (by rfl) (by rfl)
  · rw [if_neg (fun h => hb ((bits_num _).1 h))]
    rw [if_neg hb] at hv
    dsimp only
    rw [hv]
    split
    · exact tok_quo _ _
    · exact tok_sharp (hexS_isH _) (by rfl)
theorem isl_low (c : UInt8) : isL c = low c := rfl
theorem tok_name {s b : List UInt8} (h : nameB s = true) (hb : fst inW b = false) : tok (s ++ b) = (wd s, 0) := by
  unfold nameB at h
  simp only [Bool.and_eq_true, decide_eq_true_eq] at h
  cases s with
  | nil => simp at h
  | cons c r =>
    have hall := h.2
    rw [List.all_cons, Bool.and_eq_true] at hall
    exact tok_word h.1.2 hall.2 hb
theorem tok_kd {t : Int} {b : List UInt8} (h : (Ty.kd t).name ≠ []) (hb : fst inW b = false) : tok ((Ty.kd t).name ++ b) = (wd (Ty.kd t).name, 0) := by
  have : nameB (Ty.kd t).name = true := by
    rcases Ty.kd_cases t with h1 | ⟨_, h1⟩
    · rcases h1 with rfl | rfl | rfl | rfl | rfl | rfl | rfl | rfl | rfl | rfl | rfl <;> decide
    · rw [h1] at h; exact absurd rfl h
  exact tok_name this hb
theorem name_word (a : Int) : nameB (wordS a) = true := by
  unfold wordS
  repeat' split
  all_goals decide
theorem sk_val {e : En} (h : rightS e = 0) : Sk ([32, 61, 32] ++ (Ty.showS e.type e.dflt).1 ++ [59]) (tkVal e) := by
  have ht : (vtk e).text = (Ty.showS e.type e.dflt).1 := by unfold vtk; split <;> rfl
  rw [← ht]
  have h1 : Sk ([59] ++ []) [mk 59] := sk_tok (t := mk 59) (tok_mark (by decide) _) sk_nil
  have h2 : Sk ((vtk e).text ++ ([59] ++ [])) [vtk e, mk 59] := sk_tok (tok_val h []) h1
  have h3 : Sk ([61] ++ (32 :: ((vtk e).text ++ ([59] ++ [])))) (tkVal e) := sk_tok (t := mk 61) (tok_mark (by decide) _) (sk_sp h2)
  have h4 := sk_sp h3
  simpa using h4
theorem sk_rng {e : En} (h : rightS e = 0) {b : List UInt8} {ts : List Tk} (hb : Sk (32 :: b) ts) : Sk (rangeS e ++ 32 :: b) (tkRng e ++ ts) := by
  obtain ⟨h1, h2, h3, h4, h5, ⟨l1, l2⟩, ⟨u1, u2⟩, _, _⟩ := right_more h
  have hr : rangeS e = if rngB e = true then [32, 105, 110, 32] ++ Ty.numT e.low ++ [46, 46] ++ Ty.numT e.high else [] := by
    unfold rangeS rngB
    by_cases h1 : (Ty.limS e.type).1 = e.low
    · by_cases h2 : (Ty.limS e.type).2.1 = e.high
      · rw [if_neg (by rintro (h | h); exact h h1; exact h h2), if_neg (by simp [h1, h2])]
      · rw [if_pos (.inr h2), if_pos (by simp [h2])]
    · rw [if_pos (.inl h1), if_pos (by simp [h1])]
  rw [hr]
  unfold tkRng
  split
  · have a1 : Sk (Ty.numT e.high ++ 32 :: b) (nm e.high :: ts) := sk_tok (t := nm e.high) (tok_num u1 u2 (by rfl) (by rfl)) hb
    have a2 : Sk ([46, 46] ++ (Ty.numT e.high ++ 32 :: b)) (⟨5, [46, 46], 0, 0⟩ :: nm e.high :: ts) := sk_tok (t := ⟨5, [46, 46], 0, 0⟩) (tok_dots _) a1
    have a3 : Sk (Ty.numT e.low ++ ([46, 46] ++ (Ty.numT e.high ++ 32 :: b))) (nm e.low :: ⟨5, [46, 46], 0, 0⟩ :: nm e.high :: ts) := sk_tok (t := nm e.low) (tok_num l1 l2 (by rfl) (by rfl)) a2
    have a4 : Sk ([105, 110] ++ (32 :: (Ty.numT e.low ++ ([46, 46] ++ (Ty.numT e.high ++ 32 :: b))))) (wd [105, 110] :: nm e.low :: ⟨5, [46, 46], 0, 0⟩ :: nm e.high :: ts) := sk_tok (t := wd [105, 110]) (tok_name (by decide) (by rfl)) (sk_sp a3)
    have a5 := sk_sp a4
    simpa using a5
  · exact hb
theorem sk_sto {e : En} {b : List UInt8} {ts : List Tk} (hb : Sk (32 :: b) ts) : Sk ((if e.store = true then [32, 115, 116, 111, 114, 101] else []) ++ 32 :: b) (tkSto e ++ ts) := by
  unfold tkSto
  split
  · have a4 : Sk ([115, 116, 111, 114, 101] ++ 32 :: b) (wd [115, 116, 111, 114, 101] :: ts) := sk_tok (t := wd [115, 116, 111, 114, 101]) (tok_name (by decide) (by rfl)) hb
    exact sk_sp a4
  · exact hb
theorem sk_map {e : En} {b : List UInt8} {ts : List Tk} (hb : Sk (32 :: b) ts) : Sk ((if e.map = true then [32, 109, 97, 112] else []) ++ 32 :: b) (tkMap e ++ ts) := by
  unfold tkMap
  split
  · have a4 : Sk ([109, 97, 112] ++ 32 :: b) (wd [109, 97, 112] :: ts) := sk_tok (t := wd [109, 97, 112]) (tok_name (by decide) (by rfl)) hb
    exact sk_sp a4
  · exact hb
theorem sk_max {e : En} (h : rightS e = 0) {b : List UInt8} {ts : List Tk} (hb : Sk (32 :: b) ts) : Sk ((if numB e.type = true then [] else [91] ++ Ty.numT e.max ++ [93]) ++ 32 :: b) (tkMax e ++ ts) := by
  have hm := (right_more h).2.2.2.2.2.2.2.1
  unfold tkMax
  split
  · exact hb
  · have a1 : Sk ([93] ++ 32 :: b) (mk 93 :: ts) := sk_tok (t := mk 93) (tok_mark (by decide) _) hb
    have a2 : Sk (Ty.numT e.max ++ ([93] ++ 32 :: b)) (nm e.max :: mk 93 :: ts) := sk_tok (t := nm e.max) (tok_num (by omega) (by omega) (by rfl) (by rfl)) a1
    have a3 : Sk ([91] ++ (Ty.numT e.max ++ ([93] ++ 32 :: b))) (mk 91 :: nm e.max :: mk 93 :: ts) := sk_tok (t := mk 91) (tok_mark (by decide) _) a2
    simpa using a3
theorem sk_line {e : En} (h : rightS e = 0) : Sk (lineT e) (tkE e) := by
  obtain ⟨x1, x2, y1, y2, h5, _, _, _, _⟩ := right_more h
  obtain ⟨_, _, _, _, hn, hk, _, _, _⟩ := right_iff h
  have v := sk_val h
  -- the pieces that stand behind a blank begin with it
  obtain ⟨b1, hb1⟩ : ∃ b, [32, 61, 32] ++ (Ty.showS e.type e.dflt).1 ++ [59] = 32 :: b := ⟨_, rfl⟩
  rw [hb1] at v
  have r := sk_rng h v
  obtain ⟨b2, hb2⟩ : ∃ b, rangeS e ++ 32 :: b1 = 32 :: b := by
    unfold rangeS
    split
    · exact ⟨_, rfl⟩
    · exact ⟨_, rfl⟩
  rw [hb2] at r
  have s := sk_sto (e := e) r
  obtain ⟨b3, hb3⟩ : ∃ b, (if e.store = true then [32, 115, 116, 111, 114, 101] else []) ++ 32 :: b2 = 32 :: b := by split <;> exact ⟨_, rfl⟩
  rw [hb3] at s
  have m := sk_map (e := e) s
  obtain ⟨b4, hb4⟩ : ∃ b, (if e.map = true then [32, 109, 97, 112] else []) ++ 32 :: b3 = 32 :: b := by split <;> exact ⟨_, rfl⟩
  rw [hb4] at m
  have w : Sk (wordS e.access ++ 32 :: b4) (wd (wordS e.access) :: (tkMap e ++ (tkSto e ++ (tkRng e ++ tkVal e)))) := sk_tok (t := wd (wordS e.access)) (tok_name (name_word _) (by rfl)) m
  have x := sk_max h (sk_sp w)
  obtain ⟨b5, hb5, hw5⟩ : ∃ b, (if numB e.type = true then [] else [91] ++ Ty.numT e.max ++ [93]) ++ 32 :: (wordS e.access ++ 32 :: b4) = b ∧ fst inW b = false := by
    split
    · exact ⟨_, rfl, rfl⟩
    · exact ⟨_, rfl, rfl⟩
  rw [hb5] at x
  have k : Sk ((Ty.kd e.type).name ++ b5) (wd (Ty.kd e.type).name :: _) := sk_tok (t := wd (Ty.kd e.type).name) (tok_kd hk hw5) x
  have n : Sk (e.name ++ 32 :: ((Ty.kd e.type).name ++ b5)) (wd e.name :: _) := sk_tok (t := wd e.name) (tok_name hn (by rfl)) (sk_sp k)
  have u : Sk (Ty.numT e.sub ++ 32 :: (e.name ++ 32 :: ((Ty.kd e.type).name ++ b5))) (nm e.sub :: _) := sk_tok (t := nm e.sub) (tok_num (by omega) (by omega) (by rfl) (by rfl)) (sk_sp n)
  have c : Sk ([58] ++ (Ty.numT e.sub ++ 32 :: (e.name ++ 32 :: ((Ty.kd e.type).name ++ b5)))) (mk 58 :: _) := sk_tok (t := mk 58) (tok_mark (by decide) _) u
  have hix : hexV (ixT e) = e.index.toNat := hex_index (by omega)
  have hh : (ixT e).all isH = true := hexS_isH _
  have hl : (ixT e).length = 4 := by unfold ixT; rw [Oct.hexS_length]; rfl
  have hf : fst isH (ixT e) = true := by
    cases hc : ixT e with
    | nil => rw [hc] at hl; cases hl
    | cons a d => rw [hc, List.all_cons, Bool.and_eq_true] at hh; exact hh.1
  have g := tok_hexd (d := ixT e) (b := [58] ++ (Ty.numT e.sub ++ 32 :: (e.name ++ 32 :: ((Ty.kd e.type).name ++ b5)))) hh hf (by omega) (by rfl)
  rw [hix, show ((e.index.toNat : Nat) : Int) = e.index by omega] at g
  have z := sk_tok (t := ⟨3, 48 :: 120 :: ixT e, e.index, 0⟩) g c
  have e1 : lineT e = 48 :: 120 :: ixT e ++ ([58] ++ (Ty.numT e.sub ++ 32 :: (e.name ++ 32 :: ((Ty.kd e.type).name ++ b5)))) := by
    rw [← hb5, ← hb4, ← hb3, ← hb2, ← hb1]
    unfold lineT ixT
    simp
  rw [e1]
  exact z
theorem all_cons (e : En) (l : List En) : allT (e :: l) = (lineS e).1 ++ 10 :: allT l := by simp [allT]
theorem sk_all : ∀ {l : List En}, (∀ e ∈ l, rightS e = 0) → Sk (allT l) (l.flatMap tkE)
  | [], _ => sk_nil
  | e :: l, h => by
    have he := h e (List.mem_cons_self ..)
    rw [all_cons, line_ok he, List.flatMap_cons]
    exact sk_both (sk_line he) (sk_all fun x hx => h x (List.mem_cons_of_mem _ hx))
end Go.Proofs.YtmolmpgampmolaaGreat.Ed
/-
  Layer 17, plain laws: an entry's tokens are read as the entry.
  Conditions: none.
-/
namespace Go.Proofs.YtmolmpgampmolaaGreat.Ed
set_option linter.unusedVariables false
set_option linter.unusedSimpArgs false
open Lx Ent
section
variable {l : List Tk} {p : Nat} {t : Tk} {r : List Tk} {k : Int} {x : List UInt8}
theorem at_get (h : l.drop p = t :: r) : p < l.length ∧ l.getD p tk0 = t ∧ l.drop (p + 1) = r := by
  have hp : p < l.length := by
    have := congrArg List.length h
    rw [List.length_drop, List.length_cons] at this
    omega
  rw [List.drop_eq_getElem_cons hp] at h
  injection h with h1 h2
  exact ⟨hp, by rw [← h1]; simp [List.getD, List.getElem?_eq_getElem hp], h2⟩
theorem is_at (h : l.drop p = t :: r) : isS l ⟨p, 0⟩ k x = hitB t k x := by
  obtain ⟨h1, h2, _⟩ := at_get h
  unfold isS nextS
  rw [if_neg (by dsimp only; omega)]
  dsimp only
  rw [h2]
theorem need_at (h : l.drop p = t :: r) (hh : hitB t k x = true) : needR l ⟨p, 0⟩ k x = ⟨p + 1, 0⟩ := by unfold needR; rw [is_at h, if_pos hh]; rfl
theorem needT_at (h : l.drop p = t :: r) (hh : hitB t k [] = true) : needT l ⟨p, 0⟩ k = t := by unfold needT; rw [is_at h, if_pos hh]; exact (at_get h).2.1
theorem take_yes' (h : l.drop p = t :: r) (hh : hitB t k x = true) : takeS l ⟨p, 0⟩ k x = ⟨p + 1, 0⟩ := by unfold takeS; rw [is_at h, if_pos hh]; rfl
theorem take_no' (h : l.drop p = t :: r) (hh : hitB t k x = false) : takeS l ⟨p, 0⟩ k x = ⟨p, 0⟩ := by unfold takeS; rw [is_at h, if_neg (by rw [hh]; simp)]
end
theorem hit_wd (s : List UInt8) : hitB (wd s) 1 [] = true := rfl
theorem hit_nm (n : Int) : hitB (nm n) 2 [] = true := rfl
theorem name_kd {t : Int} (h : (Ty.kd t).name ≠ []) : nameS (Ty.kd t).name = (t, true) := by
  rcases Ty.kd_cases t with h1 | ⟨_, h1⟩
  · rcases h1 with rfl | rfl | rfl | rfl | rfl | rfl | rfl | rfl | rfl | rfl | rfl <;> decide
  · rw [h1] at h; exact absurd rfl h
section
variable {l : List Tk} {p : Nat} {r : List Tk} {e : En}
theorem head_back (h : rightS e = 0) (hd : l.drop p = ⟨3, 48 :: 120 :: ixT e, e.index, 0⟩ :: mk 58 :: nm e.sub :: wd e.name :: wd (Ty.kd e.type).name :: r) : headS l ⟨p, 0⟩ = ⟨e.index, e.sub, e.name, e.type, ⟨p + 5, 0⟩⟩ ∧ l.drop (p + 5) = r := by
  obtain ⟨x1, x2, y1, y2, _⟩ := right_more h
  have hk := (right_iff h).2.2.2.2.2.1
  have d1 := (at_get hd).2.2
  have d2 := (at_get d1).2.2
  have d3 := (at_get d2).2.2
  have d4 := (at_get d3).2.2
  have d5 := (at_get d4).2.2
  have n0 := need_at (k := 3) (x := []) hd rfl
  have n1 := need_at (k := 5) (x := [58]) d1 rfl
  have n2 := need_at (k := 2) (x := []) d2 rfl
  have n3 := need_at (k := 1) (x := []) d3 rfl
  have t0 := needT_at (k := 3) hd rfl
  have t2 := needT_at (k := 2) d2 rfl
  have t3 := needT_at (k := 1) d3 rfl
  have i4 := is_at (k := 1) (x := []) d4
  rw [hit_wd] at i4
  have g4 := (at_get d4).2.1
  have k1 : kindT l ⟨p + 1 + 1 + 1 + 1, 0⟩ = e.type := by
    unfold kindT
    rw [i4, if_pos rfl]
    dsimp only
    rw [g4]
    show (if (nameS (Ty.kd e.type).name).2 = true then _ else _) = _
    rw [name_kd hk, if_pos rfl]
    show (nameS (Ty.kd e.type).name).1 = _
    rw [name_kd hk]
  have k2 : kindR l ⟨p + 1 + 1 + 1 + 1, 0⟩ = ⟨p + 1 + 1 + 1 + 1 + 1, 0⟩ := by
    unfold kindR
    rw [i4, if_pos rfl]
    dsimp only
    rw [g4]
    show (if (nameS (Ty.kd e.type).name).2 = true then _ else _) = _
    rw [name_kd hk, if_pos rfl]
    rfl
  refine ⟨?_, d5⟩
  have hc : cntV e.sub = e.sub := by unfold cntV; rw [if_neg (by omega)]
  unfold headS
  simp only [n0, n1, n2, n3, t0, t2, t3, k1, k2]
  show (⟨e.index, cntV e.sub, e.name, e.type, _⟩ : Hd) = _
  rw [hc]
theorem num_max (h : rightS e = 0) (hn : numB e.type = true) : e.max = 0 := by
  have h8 := (right_iff h).2.2.2.2.2.2.2.1
  unfold limB at h8
  rw [if_pos (show (Ty.limS e.type).2.2 = true from hn)] at h8
  unfold numberedB at h8
  simp only [decide_eq_true_eq] at h8
  exact h8.1
theorem num_lims (h : rightS e = 0) (hn : numB e.type = false) : e.low = 0 ∧ e.high = 0 ∧ (Ty.limS e.type).1 = 0 ∧ (Ty.limS e.type).2.1 = 0 := by
  have h8 := (right_iff h).2.2.2.2.2.2.2.1
  unfold limB at h8
  rw [if_neg (by rw [show (Ty.limS e.type).2.2 = false from hn]; simp)] at h8
  unfold sizedB at h8
  simp only [Bool.and_eq_true, decide_eq_true_eq] at h8
  have hb : ¬ 0 < (Ty.kd e.type).bits := fun hb => by rw [(bits_num _).2 hb] at hn; cases hn
  refine ⟨h8.1.1, h8.1.2.1, ?_, ?_⟩ <;> (unfold Ty.limS; rw [if_pos (by omega)])
theorem size_back (h : rightS e = 0) (hh : headS l ⟨p, 0⟩ = ⟨e.index, e.sub, e.name, e.type, ⟨p + 5, 0⟩⟩) (hd : l.drop (p + 5) = tkMax e ++ r) : sizR l ⟨p, 0⟩ = ⟨p + 5 + (tkMax e).length, 0⟩ ∧ l.drop (p + 5 + (tkMax e).length) = r ∧ (if numB e.type = true then (0 : Int) else maxT l ⟨p + 5, 0⟩) = e.max := by
  have hm := (right_more h).2.2.2.2.2.2.2.1
  unfold sizR
  rw [hh]
  dsimp only
  unfold tkMax at hd ⊢
  cases hn : numB e.type
  · rw [hn, if_neg (by simp)] at hd
    have d1 := (at_get hd).2.2
    have d2 := (at_get d1).2.2
    have d3 := (at_get d2).2.2
    have n0 := need_at (k := 5) (x := [91]) hd rfl
    have n1 := need_at (k := 2) (x := []) d1 rfl
    have n2 := need_at (k := 5) (x := [93]) d2 rfl
    have t1 := needT_at (k := 2) d1 rfl
    simp only [Bool.false_eq_true, if_false]
    refine ⟨?_, d3, ?_⟩
    · unfold maxR
      rw [n0, n1, n2]
      rfl
    · unfold maxT
      rw [n0, t1]
      show cntV e.max = _
      unfold cntV
      rw [if_neg (by omega)]
  · rw [hn, if_pos rfl] at hd
    simp only [if_true]
    exact ⟨rfl, hd, (num_max h hn).symm⟩
theorem acc_back {q : Nat} (h : rightS e = 0) (hd : l.drop q = wd (wordS e.access) :: r) : rightsT l ⟨q, 0⟩ = e.access ∧ rightsR l ⟨q, 0⟩ = ⟨q + 1, 0⟩ := by
  have h7 := (right_iff h).2.2.2.2.2.2.1
  have hT : rightsT l ⟨q, 0⟩ = e.access := by
    have i1 := is_at (k := 1) (x := wordS 1) hd
    have i2 := is_at (k := 1) (x := wordS 2) hd
    have i3 := is_at (k := 1) (x := wordS 3) hd
    have i4 := is_at (k := 1) (x := wordS 4) hd
    unfold rightsT
    rw [i1, i2, i3, i4]
    have ha : e.access = 1 ∨ e.access = 2 ∨ e.access = 3 ∨ e.access = 4 := by
      unfold flagsB at h7
      split at h7
      · exact .inl (by assumption)
      · split at h7
        · exact .inr (.inl (by assumption))
        · exact .inr (.inr (by simpa using h7))
    rcases ha with ha | ha | ha | ha <;> rw [ha] <;> decide
  refine ⟨hT, ?_⟩
  have ha : e.access ≠ 0 := by
    intro h0
    unfold flagsB at h7
    rw [h0] at h7
    simp at h7
  unfold rightsR
  rw [hT, if_neg ha]
  rfl
end
end Go.Proofs.YtmolmpgampmolaaGreat.Ed
/-
  Layer 17, plain laws: entries that were written are read as they were.
  Conditions: none.
-/
namespace Go.Proofs.YtmolmpgampmolaaGreat.Ed
set_option linter.unusedVariables false
set_option linter.unusedSimpArgs false
open Lx Ent
section
variable {l : List Tk} {p q : Nat} {r : List Tk} {e : En}
theorem val_head (e : En) (r : List Tk) : tkVal e ++ r = mk 61 :: vtk e :: mk 59 :: r := rfl
theorem rng_head (e : En) (r : List Tk) : ∃ t r', tkRng e ++ (tkVal e ++ r) = t :: r' ∧ hitB t 1 [109, 97, 112] = false ∧ hitB t 1 [115, 116, 111, 114, 101] = false := by
  unfold tkRng
  split
  · exact ⟨_, _, rfl, by decide, by decide⟩
  · exact ⟨_, _, rfl, by decide, by decide⟩
theorem sto_head (e : En) (r : List Tk) : ∃ t r', tkSto e ++ (tkRng e ++ (tkVal e ++ r)) = t :: r' ∧ hitB t 1 [109, 97, 112] = false := by
  unfold tkSto
  split
  · exact ⟨_, _, rfl, by decide⟩
  · obtain ⟨t, r', h1, h2, _⟩ := rng_head e r
    exact ⟨t, r', h1, h2⟩
theorem map_back (hd : l.drop q = tkMap e ++ (tkSto e ++ (tkRng e ++ (tkVal e ++ r)))) : isS l ⟨q, 0⟩ 1 [109, 97, 112] = e.map ∧ takeS l ⟨q, 0⟩ 1 [109, 97, 112] = ⟨q + (tkMap e).length, 0⟩ ∧ l.drop (q + (tkMap e).length) = tkSto e ++ (tkRng e ++ (tkVal e ++ r)) := by
  unfold tkMap at hd ⊢
  cases hm : e.map
  · rw [hm, if_neg (by simp)] at hd
    simp only [Bool.false_eq_true, if_false]
    obtain ⟨t, r', h1, h2⟩ := sto_head e r
    have hd2 := hd
    rw [List.nil_append, h1] at hd
    exact ⟨by rw [is_at hd, h2], take_no' hd h2, hd2⟩
  · rw [hm, if_pos rfl] at hd
    simp only [if_true]
    exact ⟨by rw [is_at hd]; rfl, take_yes' hd rfl, (at_get hd).2.2⟩
theorem sto_back (hd : l.drop q = tkSto e ++ (tkRng e ++ (tkVal e ++ r))) : isS l ⟨q, 0⟩ 1 [115, 116, 111, 114, 101] = e.store ∧ takeS l ⟨q, 0⟩ 1 [115, 116, 111, 114, 101] = ⟨q + (tkSto e).length, 0⟩ ∧ l.drop (q + (tkSto e).length) = tkRng e ++ (tkVal e ++ r) := by
  unfold tkSto at hd ⊢
  cases hm : e.store
  · rw [hm, if_neg (by simp)] at hd
    simp only [Bool.false_eq_true, if_false]
    obtain ⟨t, r', h1, _, h2⟩ := rng_head e r
    have hd2 := hd
    rw [List.nil_append, h1] at hd
    exact ⟨by rw [is_at hd, h2], take_no' hd h2, hd2⟩
  · rw [hm, if_pos rfl] at hd
    simp only [if_true]
    exact ⟨by rw [is_at hd]; rfl, take_yes' hd rfl, (at_get hd).2.2⟩
/-- The range: what 'inB', 'limR', and the numbers come to. -/
theorem rng_back (h : rightS e = 0) (hd : l.drop q = tkRng e ++ (tkVal e ++ r)) :
    (numB e.type && isS l ⟨q, 0⟩ 1 [105, 110]) = rngB e ∧ (if rngB e = true then rngR l (stepS ⟨q, 0⟩) else ⟨q, 0⟩) = ⟨q + (tkRng e).length, 0⟩ ∧ l.drop (q + (tkRng e).length) = tkVal e ++ r ∧
    (if rngB e = true then loT l (stepS ⟨q, 0⟩) else (Ty.limS e.type).1) = e.low ∧ (if rngB e = true then hiT l (stepS ⟨q, 0⟩) else (Ty.limS e.type).2.1) = e.high := by
  unfold tkRng at hd ⊢
  cases hg : rngB e
  · rw [hg, if_neg (by simp)] at hd
    simp only [Bool.false_eq_true, if_false]
    have hd2 := hd
    rw [List.nil_append, val_head] at hd
    have hi : isS l ⟨q, 0⟩ 1 [105, 110] = false := by rw [is_at hd]; rfl
    unfold rngB at hg
    simp only [Bool.not_eq_false', Bool.and_eq_true, beq_iff_eq] at hg
    refine ⟨by rw [hi, Bool.and_false], rfl, hd2, hg.1, hg.2⟩
  · rw [hg, if_pos rfl] at hd
    simp only [if_true]
    have d1 := (at_get hd).2.2
    have d2 := (at_get d1).2.2
    have d3 := (at_get d2).2.2
    have d4 := (at_get d3).2.2
    have n1 := need_at (k := 2) (x := []) d1 rfl
    have n2 := need_at (k := 5) (x := [46, 46]) d2 rfl
    have n3 := need_at (k := 2) (x := []) d3 rfl
    have t1 := needT_at (k := 2) d1 rfl
    have t3 := needT_at (k := 2) d3 rfl
    have hn : numB e.type = true := by
      cases hn : numB e.type
      · obtain ⟨l1, l2, l3, l4⟩ := num_lims h hn
        unfold rngB at hg
        rw [l1, l2, l3, l4] at hg
        cases hg
      · rfl
    have hs : stepS ⟨q, 0⟩ = ⟨q + 1, 0⟩ := rfl
    refine ⟨by rw [hn, is_at hd]; rfl, ?_, d4, ?_, ?_⟩
    · rw [hs]; unfold rngR; rw [n1, n2, n3]; rfl
    · rw [hs]; unfold loT; rw [t1]; rfl
    · rw [hs]; unfold hiT; rw [n1, n2, t3]; rfl
theorem vtk_text (e : En) : (vtk e).text = (Ty.showS e.type e.dflt).1 := by unfold vtk; split <;> rfl
theorem val_back (hd : l.drop q = tkVal e ++ r) (k : Int) (hk : k = if numB e.type = true then 2 else 4) : valT l ⟨q, 0⟩ k = (Ty.showS e.type e.dflt).1 ∧ valR l ⟨q, 0⟩ k = ⟨q + 3, 0⟩ ∧ l.drop (q + 3) = r := by
  rw [val_head] at hd
  have d1 := (at_get hd).2.2
  have d2 := (at_get d1).2.2
  have d3 := (at_get d2).2.2
  have hv : hitB (vtk e) k [] = true := by
    subst hk
    unfold vtk
    split <;> rfl
  have n0 := need_at (k := 5) (x := [61]) hd rfl
  have n1 := need_at (k := k) (x := []) d1 hv
  have n2 := need_at (k := 5) (x := [59]) d2 rfl
  have t1 := needT_at (k := k) d1 hv
  refine ⟨?_, ?_, d3⟩
  · unfold valT; rw [n0, t1, vtk_text]
  · unfold valR; rw [n0, n1, n2]
theorem ent_back (h : rightS e = 0) (hd : l.drop p = tkE e ++ r) : entE l ⟨p, 0⟩ = { e with dflt := [] } ∧ entV l ⟨p, 0⟩ = (Ty.showS e.type e.dflt).1 ∧ entR l ⟨p, 0⟩ = ⟨p + (tkE e).length, 0⟩ ∧ l.drop (p + (tkE e).length) = r := by
  have hlen : (tkE e).length = 5 + (tkMax e).length + 1 + (tkMap e).length + (tkSto e).length + (tkRng e).length + 3 := by
    unfold tkE
    simp only [List.length_append, List.length_cons, List.length_nil]
    rw [show (tkVal e).length = 3 from rfl]
    omega
  unfold tkE at hd
  simp only [List.cons_append, List.nil_append, List.append_assoc] at hd
  obtain ⟨hh, d5⟩ := head_back h hd
  obtain ⟨hs, dq, hmx⟩ := size_back h hh d5
  obtain ⟨a1, a2⟩ := acc_back h dq
  have d6 := (at_get dq).2.2
  obtain ⟨m1, m2, d7⟩ := map_back d6
  obtain ⟨s1, s2, d8⟩ := sto_back d7
  obtain ⟨g1, g2, d9, g3, g4⟩ := rng_back h d8
  obtain ⟨v1, v2, d10⟩ := val_back d9 (entK l ⟨p, 0⟩) (by unfold entK; rw [hh])
  have hacT : accT l ⟨p, 0⟩ = e.access := by unfold accT; rw [hs, a1]
  have hacR : accR l ⟨p, 0⟩ = ⟨p + 5 + (tkMax e).length + 1, 0⟩ := by unfold accR; rw [hs, a2]
  have hmT : mapT l ⟨p, 0⟩ = e.map := by unfold mapT; rw [hacR, m1]
  have hmR : mapR l ⟨p, 0⟩ = ⟨p + 5 + (tkMax e).length + 1 + (tkMap e).length, 0⟩ := by unfold mapR; rw [hacR, m2]
  have hsT : stoT l ⟨p, 0⟩ = e.store := by unfold stoT; rw [hmR, s1]
  have hsR : stoR l ⟨p, 0⟩ = ⟨p + 5 + (tkMax e).length + 1 + (tkMap e).length + (tkSto e).length, 0⟩ := by unfold stoR; rw [hmR, s2]
  have hin : inB l ⟨p, 0⟩ = rngB e := by unfold inB; rw [hh, hsR]; exact g1
  have hlm : limR l ⟨p, 0⟩ = ⟨p + 5 + (tkMax e).length + 1 + (tkMap e).length + (tkSto e).length + (tkRng e).length, 0⟩ := by unfold limR; rw [hin, hsR]; exact g2
  have hp : p + 5 + (tkMax e).length + 1 + (tkMap e).length + (tkSto e).length + (tkRng e).length + 3 = p + (tkE e).length := by omega
  rw [hp] at v2 d10
  refine ⟨?_, ?_, ?_, d10⟩
  · unfold entE
    rw [hh, hacT, hmT, hsT, hin, hsR]
    dsimp only
    rw [hmx, g3, g4]
  · unfold entV; rw [hlm]; exact v1
  · unfold entR; rw [hlm]; exact v2
end
theorem fin_back {out es : List En} {e : En} (h : (Dc.newS (out ++ e :: es)).1 = 0) : finS out { e with dflt := [] } (Ty.showS e.type e.dflt).1 = 0 := by
  obtain ⟨h96, ho, hr⟩ := Dc.new_ok h
  have he := hr e (by simp)
  have hc := (right_more he).2.2.2.2.2.2.2.2
  have hsh : Ty.showS e.type e.dflt = ((Ty.showS e.type e.dflt).1, 0) := by rw [← hc]
  have hps := parse_show hsh
  unfold finS
  dsimp only
  rw [hps]
  dsimp only
  rw [if_neg (by simp), if_neg (by rw [show ({ e with dflt := e.dflt } : En) = e by cases e; rfl, he]; simp)]
  rw [List.length_append, List.length_cons] at h96
  rw [if_neg (by omega), if_neg]
  rintro ⟨h1, h2⟩
  have h3 := ho (out.length - 1) (by rw [List.length_append, List.length_cons]; omega)
  have e1 : (out ++ e :: es).getD (out.length - 1) Dc.en0 = out.getD (out.length - 1) Dc.en0 := by
    simp only [List.getD_eq_getElem?_getD]
    rw [List.getElem?_append_left (by omega)]
  have e2 : (out ++ e :: es).getD (out.length - 1 + 1) Dc.en0 = e := by
    simp only [List.getD_eq_getElem?_getD]
    rw [show out.length - 1 + 1 = out.length by omega, List.getElem?_append_right (Nat.le_refl _)]
    simp
  rw [e1, e2] at h3
  have h4 : befB (out.getD (out.length - 1) Dc.en0) { e with dflt := [] } = befB (out.getD (out.length - 1) Dc.en0) e := rfl
  rw [h4, h3] at h2
  cases h2
theorem par_back {l : List Tk} {n : Nat} : ∀ (es : List En) (k p : Nat) (out : List En), (Dc.newS (out ++ es)).1 = 0 → l.drop p = es.flatMap tkE → l.length < p + k → parF l n k p out = (out ++ es, 0, 0)
  | [], k, p, out, _, hd, hk => by
    have : l.length ≤ p := by
      have := congrArg List.length hd
      rw [List.length_drop, List.flatMap_nil, List.length_nil] at this
      omega
    rw [par_end this, List.append_nil]
  | e :: es, k, p, out, h, hd, hk => by
    have hr := (Dc.new_ok h).2.2 e (by simp)
    rw [List.flatMap_cons] at hd
    obtain ⟨e1, e2, e3, e4⟩ := ent_back hr hd
    have hf := fin_back h
    have hp : p < l.length := by
      have := congrArg List.length hd
      have h5 : 5 ≤ (tkE e).length := by unfold tkE; simp only [List.length_append, List.length_cons, List.length_nil]; omega
      rw [List.length_drop, List.length_append] at this
      omega
    have hc := (right_more hr).2.2.2.2.2.2.2.2
    have hps := parse_show (show Ty.showS e.type e.dflt = ((Ty.showS e.type e.dflt).1, 0) by rw [← hc])
    rw [par_step hp hk (by rw [e3]) (by rw [e1, e2]; exact hf), e1, e2, e3]
    dsimp only
    rw [hps]
    dsimp only
    rw [show ({ e with dflt := e.dflt } : En) = e by cases e; rfl]
    have h5 : 5 ≤ (tkE e).length := by unfold tkE; simp only [List.length_append, List.length_cons, List.length_nil]; omega
    rw [par_back es (k - 1) _ (out ++ [e]) (by rw [List.append_assoc]; exact h) e4 (by omega), List.append_assoc]
    rfl
/-- Tokens that are those of a text, but for places: what is read of the text. -/
theorem parse_rd {s : List UInt8} {ts : List Tk} (h8 : s.length ≤ 8192) (hr : Sk s ts) : (parseS s).1 = (parF ts s.length (ts.length + 1) 0 []).1 ∧ (parseS s).2.1 = (parF ts s.length (ts.length + 1) 0 []).2.1 := by
  obtain ⟨us, h1, h2⟩ := scan_rd h8 hr
  have hz := same_z h2
  have hl := z_len hz
  unfold parseS
  rw [h1]
  dsimp only
  rw [if_neg (by simp), ← hl]
  exact par_z hz.symm _ _ _ _ _
theorem parse_place {s : List UInt8} (h : (parseS s).2.1 = 0) : (parseS s).2.2 = 0 := by
  unfold parseS at h ⊢
  split at h
  · rename_i h1; exact absurd h h1
  · rename_i h1; rw [if_neg h1]; exact par_place _ _ _ h
/-- Entries that were written are read as they were. -/
theorem parse_all {l : List En} (h : (Dc.newS l).1 = 0) (h8 : (allT l).length ≤ 8192) : parseS (allT l) = (l, 0, 0) := by
  have hr := (Dc.new_ok h).2.2
  obtain ⟨h1, h2⟩ := parse_rd h8 (sk_all hr)
  rw [par_back (l := l.flatMap tkE) l _ 0 [] h rfl (by omega)] at h1 h2
  have h3 := parse_place h2
  generalize parseS (allT l) = x at *
  obtain ⟨a, b, c⟩ := x
  dsimp only at *
  subst h1 h2 h3
  rfl
theorem new_one {e : En} (h : rightS e = 0) : (Dc.newS [e]).1 = 0 := by
  unfold Dc.newS
  rw [if_neg (by simp)]
  show (Dc.newF [e] 1 0).1 = 0
  rw [Dc.newF]
  rw [show [e].getD 0 Dc.en0 = e from rfl, if_neg (by rw [h]; simp), if_neg (by simp)]
  rfl
/-- An entry's line is read as the entry. -/
theorem parse_line {e : En} (h : rightS e = 0) : parseS (lineT e) = ([e], 0, 0) := by
  have hl := line_len e
  rw [line_ok h] at hl
  dsimp only at hl
  obtain ⟨h1, h2⟩ := parse_rd (by omega) (sk_line h)
  rw [par_back [e] _ 0 [] (new_one h) (by simp) (by omega)] at h1 h2
  have h3 := parse_place h2
  generalize parseS (lineT e) = x at *
  obtain ⟨a, b, c⟩ := x
  dsimp only at *
  subst h1 h2 h3
  rfl
end Go.Proofs.YtmolmpgampmolaaGreat.Ed
