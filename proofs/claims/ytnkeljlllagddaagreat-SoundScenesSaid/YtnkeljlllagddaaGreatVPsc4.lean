/-
  Parts of the proofs of the laws: the executor, what functions of the program compute, and that it is what the statements ask. No premise.
-/
import Derived.Test.YtnkeljlllagddaaGreatVPsc3
import Derived.ProofKit
namespace Go.Proofs.YtnkeljlllagddaaGreat
open Go.Proofs Go.Aw Go.RowKit
set_option maxRecDepth 100000
set_option linter.unusedVariables false
set_option linter.unusedSimpArgs false

/-! ### From the contract to the row -/
open Go.ChangeShapes Go.WideShapes Go.ChangeAt
/-- the fields lie behind one another, up to place n -/
def contB (P : Program) (ok : TypeId → Bool) (n : Nat) : List Field → Nat → Bool
  | [], o => o == n
  | f :: l, o => f.offset == o && ok f.type && contB P ok n l (o + P.cellsOf f.type)
/-- a type of numbers alone (int, and structs of these) -/
def flatB (P : Program) : Nat → TypeId → Bool
  | 0, _ => false
  | k + 1, t => match P.underlying t with
    | some (.int .i64) => true
    | some (.struct fs) => contB P (flatB P k) (P.cellsOf t) fs.toList 0
    | _ => false
section
variable {H : Type} {enc : TypeId × Value → H} {P : Program} {w : World} {base : Nat} {spare : Nat → Bool} {held : Bool}
theorem cont_trod {ok : TypeId → Bool} {n fuel : Nat} {cs : List Value}
    (hok : ∀ t cs x, ok t = true → DataW.trod enc P w base spare held fuel t cs = some x → x.2 = [] ∧ ∃ ns : List Int, cs = ns.map (Value.int .i64)) (hn : cs.length = n) :
    ∀ (l : List Field) (o : Nat) (ys : List (DataW H × List MemPlace)), contB P ok n l o = true → ys.length = l.length →
      (∀ (j : Nat) (f : Field), l[j]? = some f → DataW.trod enc P w base spare held fuel f.type ((cs.drop f.offset).take (P.cellsOf f.type)) = ys[j]?) →
      (∀ y ∈ ys, y.2 = []) ∧ ∃ ns : List Int, cs.drop o = ns.map (Value.int .i64)
  | [], o, ys, hc, hl, _ => by
    have : ys = [] := List.length_eq_zero_iff.1 hl
    subst this
    simp only [contB, beq_iff_eq] at hc
    exact ⟨fun y hy => by simp at hy, [], by rw [hc, ← hn, List.drop_length]; rfl⟩
  | f :: l, o, ys, hc, hl, hf => by
    cases ys with
    | nil => simp at hl
    | cons y ys =>
      simp only [contB, Bool.and_eq_true, beq_iff_eq] at hc
      obtain ⟨⟨h1, h2⟩, h3⟩ := hc
      have g0 := hf 0 f rfl
      rw [h1] at g0
      obtain ⟨e1, n1, e2⟩ := hok f.type _ y h2 g0
      obtain ⟨e3, n2, e4⟩ := cont_trod hok hn l _ ys h3 (by simpa using hl) (fun j g hg => hf (j + 1) g hg)
      refine ⟨fun z hz => ?_, n1 ++ n2, ?_⟩
      · rcases List.mem_cons.1 hz with rfl | hz
        · exact e1
        · exact e3 z hz
      · rw [List.map_append, ← e2, ← e4, ← List.drop_drop, List.take_append_drop]
theorem flat_trod : ∀ (k : Nat) (t : TypeId) (fuel : Nat) (cs : List Value) (x : DataW H × List MemPlace), flatB P k t = true → DataW.trod enc P w base spare held fuel t cs = some x →
    x.2 = [] ∧ ∃ ns : List Int, cs = ns.map (Value.int .i64)
  | 0, _, _, _, _, h, _ => by simp [flatB] at h
  | k + 1, t, fuel, cs, x, h, hx => by
    unfold flatB at h
    split at h
    · rename_i ht
      obtain ⟨n, rfl, rfl, _⟩ := DataW.trod_int ht hx
      exact ⟨rfl, [n], rfl⟩
    · rename_i fs ht
      obtain ⟨xs, m, rfl, rfl, hl, hlen, hf⟩ := DataW.trod_struct ht hx
      obtain ⟨e1, ns, e2⟩ := cont_trod (fun t cs x h hx => flat_trod k t m cs x h hx) hl fs.toList 0 xs h (by simpa using hlen) (fun j f hj => hf j f (by simpa using hj))
      refine ⟨?_, ns, by simpa using e2⟩
      simp only
      induction xs with
      | nil => rfl
      | cons y l _ => rw [List.flatMap_eq_nil_iff]; exact e1
    · cases h
theorem open_flat {r : Reach} {b0 : Nat} {t : TypeId} {fs : Array Field} {v : Value} {d : DataW H} {ps : List MemPlace} (ht : P.underlying t = some (.struct fs)) (hf : flatB P 6 t = true)
    (hval : Value.okWide P w r b0 t v) (hd : DataW.Trod enc P w base spare held t v d ps) :
    ps = [] ∧ ∃ ns : List Int, v = .agg (ns.map (Value.int .i64)).toArray ∧ ns.length = P.cellsOf t := by
  obtain ⟨cs, rfl, hs⟩ := okWide_struct ht hval
  obtain ⟨fuel, hx⟩ := hd
  obtain ⟨e1, ns, e2⟩ := flat_trod 6 t fuel _ _ hf hx
  have e3 : cs = (ns.map (Value.int .i64)).toArray := by
    have : cs.toList = ns.map (Value.int .i64) := by simpa [Value.cells] using e2
    rw [← this]
  refine ⟨e1, ns, by rw [e3], ?_⟩
  rw [← hs, e3]; simp
end
theorem rels_iv {ρ : Env} : ∀ ns : List Int, Rels ρ (ns.map iv) (ns.map (Value.int .i64))
  | [] => trivial
  | n :: l => ⟨rfl, rels_iv l⟩
theorem rel_agg {ρ : Env} (ns : List Int) : Rel ρ (.a (ns.map iv)) (.agg (ns.map (Value.int .i64)).toArray) := ⟨_, rfl, rels_iv ns⟩
theorem post_below {H : Type} {enc : TypeId × Value → H} {P : Program} {f : Func} {s : ChangeSpec} {apart fresh handsOn : Bool} {W W' : World} {args : Array Value} {v : Value} {ds gs : List (DataW H)} {before : List MemPlace}
    (hW : DataW.Whole enc P f.params.toList s.vars apart W args.toList ds gs before) (hb : Below W.heap.size W W')
    (hres : ∀ (b : Nat) (sp : Nat → Bool) (hd : Bool), DataW.TrodAll enc P W' b sp hd f.resultTypes.toList (v.resultList f.resultTypes.size) (s.fn H (ds ++ gs)).results [])
    (hargs : DataW.TrodAll enc P W' 0 (fun b => decide (b < W.heap.size)) true f.params.toList args.toList (s.fn H (ds ++ gs)).args before)
    (hvars : DataW.TrodVars enc P W' (fun b => decide (b < W.heap.size)) s.vars (s.fn H (ds ++ gs)).vars []) :
    s.post enc P f apart fresh handsOn false W args v W' :=
  ⟨ds, gs, before, [], before, [], hW, hres _ _ _, hargs, hvars, hb.frame _, fun h => by cases h⟩
theorem all_mk {H : Type} {enc : TypeId × Value → H} {P : Program} {w : World} {base : Nat} {spare : Nat → Bool} {held : Bool} {t : TypeId} {ts : List TypeId} {v : Value} {vs : List Value} {d : DataW H} {ds : List (DataW H)} {p p' : List MemPlace}
    (h : DataW.Trod enc P w base spare held t v d p) (h' : DataW.TrodAll enc P w base spare held ts vs ds p') : DataW.TrodAll enc P w base spare held (t :: ts) (v :: vs) (d :: ds) (p ++ p') := ⟨p, p', h, h', rfl⟩
theorem own : ownKnob Tryz.prog.godebug = none := by kernel_rfl
theorem laidOut : laidOutB Tryz.prog = true := by kernel_rfl

end Go.Proofs.YtnkeljlllagddaaGreat

namespace Go.Proofs.YtnkeljlllagddaaGreat
open Go.Proofs Go.Aw Go.RowKit
set_option maxRecDepth 100000
set_option linter.unusedVariables false
set_option linter.unusedSimpArgs false

/-! ### Scales -/
def sc (d : Int) : Int := if d = 0 then 1 else if d = 1 then 2 else if d = 2 then 4 else 8
theorem d4 {d : Int} (h : 0 ≤ d ∧ d ≤ 3) : d = 0 ∨ d = 1 ∨ d = 2 ∨ d = 3 := by omega
theorem sc_f {d : Int} (h : 0 ≤ d ∧ d ≤ 3) : W (1 * 2 ^ (min (Int.toNat d) 64)) = sc d := by
  rcases d4 h with rfl | rfl | rfl | rfl <;> kernel_rfl
theorem sc_r {d : Int} (h : 0 ≤ d ∧ d ≤ 3) : W (1 * 2 ^ (min (Int.toNat (IntKind.wrap .u64 d)) 64)) = sc d := by
  rcases d4 h with rfl | rfl | rfl | rfl <;> kernel_rfl
theorem cnt_f {d : Int} (h : 0 ≤ d ∧ d ≤ 3) : W (1 * 2 ^ (min (Int.toNat (W (2 * d))) 64)) = sc d * sc d := by
  rcases d4 h with rfl | rfl | rfl | rfl <;> kernel_rfl
theorem cnt_len {d : Int} (h : 0 ≤ d ∧ d ≤ 3) (p : PN) : (((cutL d.toNat p).length : Nat) : Int) = sc d * sc d := by
  rw [cutL_len]; rcases d4 h with rfl | rfl | rfl | rfl <;> kernel_rfl
theorem sc_in (d : Int) : sc d = 1 ∨ sc d = 2 ∨ sc d = 4 ∨ sc d = 8 := by unfold sc; (repeat' split) <;> simp
theorem sc_bd (d : Int) : 1 ≤ sc d ∧ sc d ≤ 8 := by have := sc_in d; omega
def tm (s : Int) (p : P3) : P3 := (s * p.1, s * p.2.1, s * p.2.2)
theorem bd_tm {s m : Int} {p : P3} (hs : 1 ≤ s ∧ s ≤ 8) (hm : 0 ≤ m) (hp : bd m p) : bd (8 * m) (tm s p) := by
  have h1 := mul_bd (a := 8) (b := m) (x := s) (y := p.1) (by omega) hp.1
  have h2 := mul_bd (a := 8) (b := m) (x := s) (y := p.2.1) (by omega) hp.2.1
  have h3 := mul_bd (a := 8) (b := m) (x := s) (y := p.2.2) (by omega) hp.2.2
  exact ⟨h1, h2, h3⟩
theorem tm_W {s : Int} {p : P3} (hs : 1 ≤ s ∧ s ≤ 8) (hp : bd 4096 p) : ((W (s * p.1)), (W (s * p.2.1)), (W (s * p.2.2))) = tm s p := by
  have h := bd_tm hs (by omega) hp
  have h1 := h.1; have h2 := h.2.1; have h3 := h.2.2
  simp only [tm] at h1 h2 h3
  unfold tm
  rw [W_eq (n := s * p.1) (by omega) (by omega), W_eq (n := s * p.2.1) (by omega) (by omega), W_eq (n := s * p.2.2) (by omega) (by omega)]
theorem tm_f {s : Int} {p : P3} (hs : 1 ≤ s ∧ s ≤ 8) (hp : bd 4096 p) : F170 p s = tm s p := tm_W hs hp
theorem tm_r {s : Int} {p : P3} (hs : 1 ≤ s ∧ s ≤ 8) (hp : bd 4096 p) : F175 p s = tm s p := tm_W hs hp
/-! ### Spans of numbers that are small -/
theorem res_f {a b : Int} (h1 : -1099511627776 ≤ a) (h2 : a ≤ b) (h3 : b ≤ 1099511627776) : F134 a b = ((a, b), 0) := by
  unfold F134 F184
  rw [decide_eq_true (show (a, b).1 ≥ -1099511627776 from h1), decide_eq_true (show (a, b).1 ≤ (a, b).2 from h2), decide_eq_true (show (a, b).2 ≤ 1099511627776 from h3)]; rfl
theorem res_r {a b : Int} (h1 : -1099511627776 ≤ a) (h2 : a ≤ b) (h3 : b ≤ 1099511627776) : F138 a b = ((a, b), 0) := by
  unfold F138 F110
  rw [decide_eq_true (show (a, b).1 ≥ -1099511627776 from h1), decide_eq_true (show (a, b).1 ≤ (a, b).2 from h2), decide_eq_true (show (a, b).2 ≤ 1099511627776 from h3)]; rfl
/-! ### Roots of quotients -/
theorem rt_eq {n : Int} (h0 : 0 ≤ n) (h : n < 4611686018427387904) : F245 n = F159 n := (rtRef h0 h).eq (rtSpan h0 h)
noncomputable def inv (N n : Int) : Int × Int :=
  (F159 (N / n), if F159 (N / n) * F159 (N / n) * n = N then F159 (N / n) else F159 (N / n) + 1)
theorem quo_bd {N n : Int} (hN : 0 ≤ N) (hn : 1 ≤ n) : 0 ≤ N / n ∧ N / n ≤ N ∧ (N / n) * n ≤ N := by
  have h1 : 0 ≤ N / n := Int.ediv_nonneg hN (by omega)
  have h2 : (N / n) * n ≤ N := Int.ediv_mul_le N (by omega)
  have h3 : (N / n) * 1 ≤ (N / n) * n := Int.mul_le_mul_of_nonneg_left hn h1
  omega
theorem inv_facts {N n : Int} (hN : 0 ≤ N ∧ N ≤ 288230376151711744) (hn : 1 ≤ n) :
    ∃ k, F159 (N / n) = k ∧ IsRt (N / n) k ∧ 0 ≤ k ∧ k ≤ 536870912 ∧ 0 ≤ k * k ∧ k * k ≤ N / n ∧ 0 ≤ k * k * n ∧ k * k * n ≤ N := by
  obtain ⟨h1, h2, h3⟩ := quo_bd hN.1 hn
  have h := rtSpan (n := N / n) h1 (by omega)
  have h4 := h.le (m := 536870912) (by omega) (by omega)
  have h5 : 0 ≤ F159 (N / n) * F159 (N / n) := Int.mul_nonneg h.1 h.1
  exact ⟨_, rfl, h, h.1, h4, h5, h.2.1, Int.mul_nonneg h5 (by omega), Int.le_trans (Int.mul_le_mul_of_nonneg_right h.2.1 (by omega)) h3⟩
theorem inv_f {N n : Int} (hN : 0 ≤ N ∧ N ≤ 288230376151711744) (hn : 1 ≤ n) : F200 N n = (inv N n, 0) := by
  obtain ⟨k, hk, _, k0, k1, k2, k3, k4, k5⟩ := inv_facts hN hn
  obtain ⟨h1, h2, h3⟩ := quo_bd hN.1 hn
  unfold F200 inv
  rw [Int.tdiv_eq_ediv_of_nonneg hN.1, W_eq (n := N / n) (by omega) (by omega), hk, W_eq (n := k * k) (by omega) (by omega), W_eq (n := k * k * n) (by omega) (by omega), W_eq (n := k + 1) (by omega) (by omega),
    res_f (by omega) (Int.le_refl k) (by omega), res_f (by omega) (by omega) (by omega)]
  by_cases h : k * k * n = N
  · rw [if_pos h, beq_iff_eq.2 h]; rfl
  · rw [if_neg h, beq_eq_false_iff_ne.2 h]; rfl
theorem inv_r {N n : Int} (hN : 0 ≤ N ∧ N ≤ 288230376151711744) (hn : 1 ≤ n) : F236 N n = (inv N n, 0) := by
  obtain ⟨k, hk, _, k0, k1, k2, k3, k4, k5⟩ := inv_facts hN hn
  obtain ⟨h1, h2, h3⟩ := quo_bd hN.1 hn
  unfold F236 inv
  rw [Int.tdiv_eq_ediv_of_nonneg hN.1, W_eq (n := N / n) (by omega) (by omega), rt_eq h1 (by omega), hk, W_eq (n := k * k) (by omega) (by omega), W_eq (n := k + 1) (by omega) (by omega),
    res_r (by omega) (Int.le_refl k) (by omega), res_r (by omega) (by omega) (by omega), Int.tmod_eq_emod_of_nonneg hN.1]
  have hdm : n * (N / n) + N % n = N := Int.mul_ediv_add_emod N n
  by_cases h0 : N % n = 0
  · rw [beq_iff_eq.2 h0, cond_true]
    by_cases h : k * k = N / n
    · rw [beq_iff_eq.2 h, cond_true, if_pos (by rw [h, Int.mul_comm]; omega)]
    · rw [beq_eq_false_iff_ne.2 h, cond_false, if_neg]
      intro h'
      rw [h0, Int.add_zero, Int.mul_comm] at hdm
      exact h (Int.eq_of_mul_eq_mul_right (by omega) (h'.trans hdm.symm))
  · rw [beq_eq_false_iff_ne.2 h0, cond_false, if_neg]
    intro h'
    rw [← h'] at h0
    exact h0 (Int.mul_emod_left _ _)
theorem inv_bd {N n : Int} (hN : 0 ≤ N ∧ N ≤ 288230376151711744) (hn : 1 ≤ n) : 0 ≤ (inv N n).1 ∧ (inv N n).1 ≤ (inv N n).2 ∧ (inv N n).2 ≤ 536870913 := by
  obtain ⟨k, hk, _, k0, k1, _⟩ := inv_facts hN hn
  unfold inv
  rw [hk]
  simp only
  split <;> omega
theorem inv_mono {N n m : Int} (hN : 0 ≤ N ∧ N ≤ 288230376151711744) (hn : 1 ≤ n) (hm : n ≤ m) : (inv N m).1 ≤ (inv N n).1 := by
  obtain ⟨h1, h2, h3⟩ := quo_bd hN.1 hn
  obtain ⟨g1, g2, g3⟩ := quo_bd (n := m) hN.1 (by omega)
  have h : N / m ≤ N / n := by
    refine Int.le_ediv_of_mul_le (by omega) (Int.le_trans (Int.mul_le_mul_of_nonneg_left hm g1) g3)
  exact (rtSpan g1 (by omega)).mono (rtSpan h1 (by omega)) h
def NN (s : Int) : Int := s * s * 1099511627776
theorem NN_bd {s : Int} (h : s = 1 ∨ s = 2 ∨ s = 4 ∨ s = 8) : 0 ≤ NN s ∧ NN s ≤ 288230376151711744 := by rcases h with rfl | rfl | rfl | rfl <;> decide
noncomputable def of1 (s n : Int) : Int × Int := if n < 1 then (0, 0) else inv (NN s) n
theorem lt8 {s : Int} (h : s = 1 ∨ s = 2 ∨ s = 4 ∨ s = 8) : decide (s < 1) = false ∧ decide (s > 8) = false ∧ F137 s 1 8 = true := by
  rcases h with rfl | rfl | rfl | rfl <;> decide
theorem one_f {s n : Int} (hs : s = 1 ∨ s = 2 ∨ s = 4 ∨ s = 8) (hn : n ≤ 1000000000) : (F130 n s).1 = of1 s n := by
  obtain ⟨e1, e2, _⟩ := lt8 hs
  unfold F130 of1
  by_cases h : n < 1
  · rw [decide_eq_true h, cond_true, if_pos h]
  · have e : W ((W (s * s)) * 2 ^ (min (Int.toNat 40) 64)) = NN s := by rcases hs with rfl | rfl | rfl | rfl <;> kernel_rfl
    rw [decide_eq_false h, cond_false, decide_eq_false (show ¬ n > 1099511627776 by omega), cond_false, e1, cond_false, e2, cond_false, if_neg h, e, inv_f (NN_bd hs) (by omega)]
theorem one_r {s n : Int} (hs : s = 1 ∨ s = 2 ∨ s = 4 ∨ s = 8) (hn : n ≤ 1000000000) : (F202 n s).1 = of1 s n := by
  obtain ⟨_, _, e3⟩ := lt8 hs
  unfold F202 of1
  by_cases h : n < 1
  · rw [within_eq1, decide_eq_false (show ¬ (1 ≤ n ∧ n ≤ 1099511627776) by omega), if_pos h]; rfl
  · have e : W ((W ((W (1048576 * s)) * 1048576)) * s) = NN s := by rcases hs with rfl | rfl | rfl | rfl <;> kernel_rfl
    rw [e3, within_eq1, decide_eq_true (show (1 ≤ n ∧ n ≤ 1099511627776) by omega), if_neg h, e, inv_r (NN_bd hs) (by omega)]; rfl
/-- what a function of the distance must be -/
structure OfOk (of : Int → Int × Int) : Prop where
  lo : ∀ n, 0 ≤ (of n).1
  le : ∀ n, (of n).1 ≤ (of n).2
  hi : ∀ n, (of n).2 ≤ 536870913
  mono : ∀ n m, 1 ≤ n → n ≤ m → (of m).1 ≤ (of n).1
theorem of1_ok {s : Int} (hs : s = 1 ∨ s = 2 ∨ s = 4 ∨ s = 8) : OfOk (of1 s) := by
  have hb : ∀ n, 0 ≤ (of1 s n).1 ∧ (of1 s n).1 ≤ (of1 s n).2 ∧ (of1 s n).2 ≤ 536870913 := by
    intro n
    unfold of1
    split
    · simp
    · exact inv_bd (NN_bd hs) (by omega)
  refine ⟨fun n => (hb n).1, fun n => (hb n).2.1, fun n => (hb n).2.2, fun n m h1 h2 => ?_⟩
  unfold of1
  rw [if_neg (by omega), if_neg (by omega)]
  exact inv_mono (NN_bd hs) h1 h2
end Go.Proofs.YtnkeljlllagddaaGreat

namespace Go.Proofs.YtnkeljlllagddaaGreat
open Go.Proofs Go.Aw Go.RowKit
set_option maxRecDepth 100000
set_option linter.unusedVariables false
set_option linter.unusedSimpArgs false

/-! ### The mean -/
def fa (c : PN) (x : P3) : Int := mx (mx (mx 0 (ds c.1 x)) (ds c.2.1 x)) (ds c.2.2 x)
def ne (c : PN) (x : P3) : Int := nr (blo c) (bhi c) x x
theorem fa_f {c : PN} {x : P3} (hc : bdP 5000 c) (hx : bd 5000 x) : F198_L_L [(F196 c).1, (F196 c).2.1, (F196 c).2.2] [x] = fa c x := by
  refine (farF1 c x).trans ?_
  rw [fF_eq hc.1 hx, fF_eq hc.2.1 hx, fF_eq hc.2.2 hx]; rfl
theorem fa_r {c : PN} {x : P3} (hc : bdP 5000 c) (hx : bd 5000 x) : F203_L c [x] = fa c x := by
  rw [farR1, rF_eq hc.1 hx, rF_eq hc.2.1 hx, rF_eq hc.2.2 hx]; rfl
theorem ne_f {c : PN} {x : P3} (hc : bdP 5000 c) (hx : bd 5000 x) : F197_3_1 (F196 c) x = ne c x := near31 hc hx
theorem ne_r {c : PN} {x : P3} (hc : bdP 5000 c) (hx : bd 5000 x) : F201_1 c x = ne c x := close1 hc hx
theorem ds_bd {p q : P3} (hp : bd 5000 p) (hq : bd 5000 q) : 0 ≤ ds p q ∧ ds p q ≤ 300000000 := by
  have h := bd_sb hp hq
  have := dt_bd h h
  exact ⟨dt_self _, by unfold ds; omega⟩
theorem fa_bd {c : PN} {x : P3} (hc : bdP 5000 c) (hx : bd 5000 x) : 0 ≤ fa c x ∧ fa c x ≤ 300000000 :=
  ⟨Int.le_trans (le_mx1 0 _) (Int.le_trans (le_mx1 _ _) (le_mx1 _ _)), mx_le (mx_le (mx_le (by omega) (ds_bd hc.1 hx).2) (ds_bd hc.2.1 hx).2) (ds_bd hc.2.2 hx).2⟩
theorem sq_le {a b : Int} (ha : 0 ≤ a) (h : a ≤ b ∨ a ≤ -b) : a * a ≤ b * b := by
  rcases h with h | h
  · exact Int.mul_le_mul h h ha (by omega)
  · have := Int.mul_le_mul h h ha (by omega)
    rwa [Int.neg_mul_neg] at this
theorem gp_le {a b c x : Int} (h1 : a ≤ c) (h2 : c ≤ b) : gp a b x x * gp a b x x ≤ (c - x) * (c - x) := by
  refine sq_le (gp_nn _ _ _ _) ?_
  unfold gp mx
  (repeat' split) <;> omega
theorem nr_nn (a b c d : P3) : 0 ≤ nr a b c d := by
  have h1 := sq_nn (gp a.1 b.1 c.1 d.1); have h2 := sq_nn (gp a.2.1 b.2.1 c.2.1 d.2.1); have h3 := sq_nn (gp a.2.2 b.2.2 c.2.2 d.2.2)
  unfold nr; omega
theorem ne_le (c : PN) (x : P3) : 0 ≤ ne c x ∧ ne c x ≤ fa c x := by
  refine ⟨nr_nn _ _ _ _, Int.le_trans ?_ (Int.le_trans (le_mx2 _ _) (Int.le_trans (le_mx1 _ (ds c.2.1 x)) (le_mx1 _ (ds c.2.2 x))))⟩
  have h1 := gp_le (x := x.1) (lo3_le c.1.1 c.2.1.1 c.2.2.1).1 (le_hi3 c.1.1 c.2.1.1 c.2.2.1).1
  have h2 := gp_le (x := x.2.1) (lo3_le c.1.2.1 c.2.1.2.1 c.2.2.2.1).1 (le_hi3 c.1.2.1 c.2.1.2.1 c.2.2.2.1).1
  have h3 := gp_le (x := x.2.2) (lo3_le c.1.2.2 c.2.1.2.2 c.2.2.2.2).1 (le_hi3 c.1.2.2 c.2.1.2.2 c.2.2.2.2).1
  unfold ne nr ds dt sb
  simp only [blo, bhi]
  omega
/-- the sums over parts -/
noncomputable def acc (of : Int → Int × Int) (x : P3) : List PN → Int × Int → (Int × Int) ⊕ ((Int × Int) × Int)
  | [], v => .inl v
  | c :: l, v => if ne c x = 0 then .inr ((0, 0), 10) else acc of x l (v.1 + (of (fa c x)).1, v.2 + (of (ne c x)).2)
/-- sums that are not out of range -/
def okv (v : Int × Int) (n : Nat) : Prop := 0 ≤ v.1 ∧ v.1 ≤ v.2 ∧ v.2 + 536870913 * n ≤ 34359738432
theorem okv_next {of : Int → Int × Int} (ho : OfOk of) {c : PN} {x : P3} {v : Int × Int} {n : Nat} (h : okv v (n + 1)) (hn : ne c x ≠ 0) :
    okv (v.1 + (of (fa c x)).1, v.2 + (of (ne c x)).2) n := by
  have h0 := ne_le c x
  have h1 := ho.lo (fa c x); have h2 := ho.mono (ne c x) (fa c x) (by omega) h0.2; have h3 := ho.le (ne c x); have h4 := ho.hi (ne c x)
  unfold okv at *; simp only; omega
theorem acc_ok {of : Int → Int × Int} (ho : OfOk of) {x : P3} : ∀ {l : List PN} {v w : Int × Int}, okv v l.length → acc of x l v = .inl w → okv w 0
  | [], v, w, h, e => by cases e; exact h
  | c :: l, v, w, h, e => by
    unfold acc at e
    split at e
    · cases e
    · rename_i hn; exact acc_ok ho (okv_next ho h hn) e
theorem acc_runL {of : Int → Int × Int} (ho : OfOk of) {x : P3} {S : Int × Int → PN → (Int × Int) ⊕ ((Int × Int) × Int)} :
    ∀ {l : List PN} {v : Int × Int}, (∀ c ∈ l, ∀ v : Int × Int, S v c = if ne c x = 0 then .inr ((0, 0), 10) else .inl (W (v.1 + (of (fa c x)).1), W (v.2 + (of (ne c x)).2))) → okv v l.length → runL S l v = acc of x l v
  | [], v, _, _ => rfl
  | c :: l, v, hS, h => by
    have h0 := hS c (List.mem_cons_self) v
    unfold runL acc
    rw [h0]
    by_cases hn : ne c x = 0
    · rw [if_pos hn, if_pos hn]
    · rw [if_neg hn, if_neg hn]
      have h1 := okv_next ho h hn
      have h2 := h1
      unfold okv at h2; simp only at h2
      simp only
      rw [W_eq (by omega) (by omega), W_eq (by omega) (by omega)]
      exact acc_runL ho (fun c hc => hS c (List.mem_cons_of_mem _ hc)) h1
theorem acc_loopF {of : Int → Int × Int} (ho : OfOk of) {x : P3} {S : Int × Int × Int → (Int × Int × Int) ⊕ ((Int × Int) × Int)} {G : Int × Int → (Int × Int) × Int} {L : List PN}
    (hS : ∀ (i : Nat) (c : PN), L[i]? = some c → ∀ v1 v2 : Int, S (v1, v2, (i : Int)) = if ne c x = 0 then .inr ((0, 0), 10) else .inl (W (v1 + (of (fa c x)).1), W (v2 + (of (ne c x)).2), ((i + 1 : Nat) : Int)))
    (hE : ∀ v1 v2 : Int, S (v1, v2, (L.length : Int)) = .inr (G (v1, v2))) :
    ∀ (l : List PN) (i n : Nat) (v : Int × Int), L.drop i = l → i ≤ L.length → l.length < n → okv v l.length → loopF S n (v.1, v.2, (i : Int)) = thenL G (acc of x l v)
  | [], i, n, v, hd, hi, hn, h => by
    have : i = L.length := by have := List.drop_eq_nil_iff.1 hd; omega
    obtain ⟨n, rfl⟩ : ∃ m, n = m + 1 := ⟨n - 1, by simp only [List.length_nil] at hn; omega⟩
    subst this
    rw [loopF_inr (hE _ _)]; rfl
  | c :: l, i, n, v, hd, hi, hn, h => by
    have hc : L[i]? = some c := by
      have : (L.drop i)[0]? = some c := by rw [hd]; rfl
      simpa using this
    have hlt : i < L.length := by
      obtain ⟨hlt, _⟩ := List.getElem?_eq_some_iff.1 hc; exact hlt
    obtain ⟨n, rfl⟩ : ∃ m, n = m + 1 := ⟨n - 1, by omega⟩
    have h0 := hS i c hc v.1 v.2
    unfold acc
    by_cases hz : ne c x = 0
    · rw [if_pos hz] at h0
      rw [if_pos hz, loopF_inr h0]; rfl
    · rw [if_neg hz] at h0
      rw [if_neg hz, loopF_inl h0]
      have h1 := okv_next ho h hz
      have h2 := h1
      unfold okv at h2; simp only at h2
      rw [W_eq (by omega) (by omega), W_eq (by omega) (by omega)]
      exact acc_loopF ho hS hE l (i + 1) n _ (by rw [← List.drop_drop, hd]; rfl) (by omega) (by simp only [List.length_cons] at hn; omega) h1
/-! division by small numbers -/
theorem dn_f {a n : Int} (hn : n = 1 ∨ n = 4 ∨ n = 16 ∨ n = 64) (ha : -1099511627776 ≤ a ∧ a ≤ 1099511627776) : F211 a n = a / n := by
  unfold F211
  have h0 : ∀ b : Int, decide (n < 0) = false := fun _ => decide_eq_false (by omega)
  rw [h0 0]
  have key : (bif ((Int.tmod a n : Int) != 0) then (bif (!(decide (a < 0) == false)) then W (W (Int.tdiv a n) - 1) else W (Int.tdiv a n)) else W (Int.tdiv a n)) = if Int.tmod a n ≠ 0 ∧ a < 0 then W (W (Int.tdiv a n) - 1) else W (Int.tdiv a n) := by
    by_cases h1 : Int.tmod a n = 0
    · rw [h1]; simp
    · by_cases h2 : a < 0
      · rw [bne_iff_ne.2 h1, decide_eq_true h2, if_pos ⟨h1, h2⟩]; rfl
      · rw [bne_iff_ne.2 h1, decide_eq_false h2, if_neg (fun h => h2 h.2)]; rfl
  rw [key]
  rcases Int.lt_or_le a 0 with h | h
  · obtain ⟨b, rfl⟩ : ∃ b : Int, a = -b := ⟨-a, by omega⟩
    have hb : 0 ≤ b := by omega
    rw [Int.neg_tdiv, Int.neg_tmod, Int.tdiv_eq_ediv_of_nonneg hb, Int.tmod_eq_emod_of_nonneg hb]
    rcases hn with rfl | rfl | rfl | rfl <;>
    · rw [W_eq (n := -(b / _)) (by omega) (by omega)]
      split
      · rw [W_eq (by omega) (by omega)]; omega
      · omega
  · rw [if_neg (by omega), Int.tdiv_eq_ediv_of_nonneg h]
    rcases hn with rfl | rfl | rfl | rfl <;> exact W_eq (by omega) (by omega)
theorem dn_r {a n : Int} (hn : n = 1 ∨ n = 4 ∨ n = 16 ∨ n = 64) (ha : -1099511627776 ≤ a ∧ a ≤ 1099511627776) : F205 a n = a / n := by
  unfold F205
  rcases Int.lt_or_le a 0 with h | h
  · obtain ⟨b, rfl⟩ : ∃ b : Int, a = -b := ⟨-a, by omega⟩
    have hb : 0 ≤ b := by omega
    rw [Int.neg_tdiv, Int.neg_tmod, Int.tdiv_eq_ediv_of_nonneg hb, Int.tmod_eq_emod_of_nonneg hb]
    by_cases h1 : -(b % n) < (0 : Int)
    · rw [decide_eq_true h1, cond_true]
      rcases hn with rfl | rfl | rfl | rfl <;>
      · rw [W_eq (n := -(b / _)) (by omega) (by omega), W_eq (by omega) (by omega)]; omega
    · rw [decide_eq_false h1, cond_false]
      rcases hn with rfl | rfl | rfl | rfl <;>
      · rw [W_eq (n := -(b / _)) (by omega) (by omega)]; omega
  · rw [Int.tdiv_eq_ediv_of_nonneg h, Int.tmod_eq_emod_of_nonneg h]
    have : ¬ a % n < 0 := by have := Int.emod_nonneg a (show n ≠ 0 by omega); omega
    rw [decide_eq_false this, cond_false]
    rcases hn with rfl | rfl | rfl | rfl <;> exact W_eq (by omega) (by omega)
theorem up_f {a n : Int} (hn : n = 1 ∨ n = 4 ∨ n = 16 ∨ n = 64) (ha : -1099511627776 ≤ a ∧ a ≤ 1099511627776) : F212 a n = -(-a / n) := by
  unfold F212
  rw [W_eq (n := 0 - a) (by omega) (by omega), dn_f hn (by omega), Int.zero_sub]
  rcases hn with rfl | rfl | rfl | rfl <;> exact (W_eq (by omega) (by omega)).trans (by omega)
theorem up_r {a n : Int} (hn : n = 1 ∨ n = 4 ∨ n = 16 ∨ n = 64) (ha : -1099511627776 ≤ a ∧ a ≤ 1099511627776) : F206 a n = -(-a / n) := by
  unfold F206
  rw [W_eq (n := 0 - a) (by omega) (by omega), dn_r hn (by omega), Int.zero_sub]
  rcases hn with rfl | rfl | rfl | rfl <;> exact (W_eq (by omega) (by omega)).trans (by omega)
/-- the mean of so many spans -/
def avg (v : Int × Int) (n : Int) : Int × Int := (v.1 / n, -(-v.2 / n))
theorem val_f {a b : Int} (h1 : -1099511627776 ≤ a) (h2 : a ≤ b) (h3 : b ≤ 1099511627776) : F184 (a, b) = true := by
  unfold F184
  rw [decide_eq_true (show (a, b).1 ≥ -1099511627776 from h1), decide_eq_true (show (a, b).1 ≤ (a, b).2 from h2), decide_eq_true (show (a, b).2 ≤ 1099511627776 from h3)]; rfl
theorem avg_f {v : Int × Int} {n : Int} (hn : n = 1 ∨ n = 4 ∨ n = 16 ∨ n = 64) (h : okv v 0) : F199 v.1 v.2 n = avg v n := by
  unfold okv at h
  unfold F199 F146 F131_1
  rw [val_f (by omega) (by omega) (by omega)]
  simp only [Bool.not_true, cond_false, bne_self_eq_false]
  rw [decide_eq_false (show ¬ n < 1 by omega), decide_eq_false (show ¬ n > 1099511627776 by omega), cond_false, cond_false, dn_f hn (by omega), up_f hn (by omega)]
  have : v.1 / n ≤ -(-v.2 / n) ∧ -1099511627776 ≤ v.1 / n ∧ -(-v.2 / n) ≤ 1099511627776 := by
    rcases hn with rfl | rfl | rfl | rfl <;> omega
  rw [res_f this.2.1 this.1 this.2.2]; rfl
theorem cnt_in (d : Int) : sc d * sc d = 1 ∨ sc d * sc d = 4 ∨ sc d * sc d = 16 ∨ sc d * sc d = 64 := by
  rcases sc_in d with h | h | h | h <;> rw [h] <;> decide

end Go.Proofs.YtnkeljlllagddaaGreat

namespace Go.Proofs.YtnkeljlllagddaaGreat
open Go.Proofs Go.Aw Go.RowKit
set_option maxRecDepth 100000
set_option linter.unusedVariables false
set_option linter.unusedSimpArgs false

/-! ### The program's mean is the reference's -/
theorem thenL_ok {of : Int → Int × Int} (ho : OfOk of) {x : P3} {l : List PN} {R : Type} {G G' : Int × Int → R} {v : Int × Int} {w : (Int × Int) ⊕ R}
    (hv : okv v l.length) (hw : ∀ u, w = .inl u → acc of x l v = .inl u) (h : ∀ u, okv u 0 → G u = G' u) : thenL G w = thenL G' w := by
  cases w with
  | inl u => exact h u (acc_ok ho hv (hw u rfl))
  | inr r => rfl
theorem cutL_in {p c : PN} {d : Int} (hp : bdP 64 p) (hd : 0 ≤ d ∧ d ≤ 3) (hc : c ∈ cutL d.toNat p) : bdP 512 c := by
  have key : ∀ k : Nat, k ≤ 3 → c ∈ cutL k p → bdP 512 c := by
    intro k hk hc
    have : k = 0 ∨ k = 1 ∨ k = 2 ∨ k = 3 := by omega
    rcases this with rfl | rfl | rfl | rfl <;> exact (cutL_bd (m := 64) _ hp (by decide) (by decide) hc).mono (by decide)
  exact key _ (by omega) hc
theorem okv_0 {p : PN} {d : Int} (hd : 0 ≤ d ∧ d ≤ 3) : okv (0, 0) (cutL d.toNat p).length := by
  have h := cnt_len hd p
  have h1 := cnt_in d
  unfold okv; simp only; omega
noncomputable def meanS (of : Int → Int × Int) (p : PN) (x : P3) (d : Int) : (Int × Int) × Int :=
  thenL (fun v => (avg v (sc d * sc d), 0)) (acc of (tm (sc d) x) (cutL d.toNat p) (0, 0))
section
variable {p : PN} {x : P3} {d : Int}
theorem mean1_f (hp : bdP 64 p) (hx : bd 256 x) (hd : 0 ≤ d ∧ d ≤ 3) : F129_f130 p x d = meanS (of1 (sc d)) p x d := by
  have hs := sc_bd d
  have hx' : bd 5000 (tm (sc d) x) := (bd_tm hs (by omega) hx).mono (by omega)
  have ho := of1_ok (sc_in d)
  have hk := okv_0 (p := p) hd
  unfold F129_f130 meanS
  rw [acc_runL ho (x := tm (sc d) x) (S := S129_f130_r p x d) (fun c hc v => ?_) hk]
  · refine thenL_ok ho hk (fun u h => h) (fun u hu => ?_)
    show (F199 u.1 u.2 _, (0 : Int)) = _
    rw [cnt_f hd, avg_f (cnt_in d) hu]
  · have hb := (cutL_in hp hd hc).mono (show (512 : Int) ≤ 5000 by omega)
    obtain ⟨v1, v2⟩ := v
    simp only [S129_f130_r]
    rw [sc_f hd, tm_f hs (hx.mono (by omega)), ne_f hb hx', fa_f hb hx']
    have h1 := fa_bd hb hx'; have h2 := ne_le c (tm (sc d) x)
    rw [one_f (sc_in d) (by omega), one_f (sc_in d) (by omega)]
    by_cases h : ne c (tm (sc d) x) = 0
    · rw [if_pos h, beq_iff_eq.2 h, cond_true]
    · rw [if_neg h, beq_eq_false_iff_ne.2 h, cond_false]
theorem mean1_r (hp : bdP 64 p) (hx : bd 256 x) (hd : 0 ≤ d ∧ d ≤ 3) : F136 p x d false = meanS (of1 (sc d)) p x d := by
  have hs := sc_bd d
  have hx' : bd 5000 (tm (sc d) x) := (bd_tm hs (by omega) hx).mono (by omega)
  have ho := of1_ok (sc_in d)
  have hk := okv_0 (p := p) hd
  have hL := cutR hp hd
  have hl := cnt_len hd p
  unfold F136 meanS
  rw [show ((0, 0, 0) : Int × Int × Int) = (((0, 0) : Int × Int).1, ((0, 0) : Int × Int).2, ((0 : Nat) : Int)) from rfl,
    acc_loopF ho (x := tm (sc d) x) (S := S136_0 p x d false) (L := cutL d.toNat p) (G := fun v => ((F205 v.1 (sc d * sc d), F206 v.2 (sc d * sc d)), 0)) (fun i c hi v1 v2 => ?_) (fun v1 v2 => ?_) (cutL d.toNat p) 0 _ (0, 0) rfl (Nat.zero_le _) (by rw [hL]; omega) hk]
  · refine thenL_ok ho hk (fun u h => h) (fun u hu => ?_)
    unfold okv at hu
    rw [dn_r (cnt_in d) (by omega), up_r (cnt_in d) (by omega)]; rfl
  · obtain ⟨hlt, hc⟩ := List.getElem?_eq_some_iff.1 hi
    have hm : c ∈ cutL d.toNat p := hc ▸ List.getElem_mem hlt
    have hb := (cutL_in hp hd hm).mono (show (512 : Int) ≤ 5000 by omega)
    have hg : (cutL d.toNat p).getD i default = c := by rw [List.getD_eq_getElem?_getD, hi]; rfl
    simp only [S136_0]
    rw [hL, decide_eq_true (show ((i : Nat) : Int) < ((cutL d.toNat p).length : Nat) by omega), cond_true, Int.toNat_natCast, hg, sc_r hd, tm_r hs (hx.mono (by omega)), ne_r hb hx', fa_r hb hx']
    have h1 := fa_bd hb hx'; have h2 := ne_le c (tm (sc d) x)
    rw [one_r (sc_in d) (by omega), one_r (sc_in d) (by omega)]
    by_cases h : ne c (tm (sc d) x) = 0
    · rw [if_pos h, beq_iff_eq.2 h, cond_true]
    · rw [if_neg h, beq_eq_false_iff_ne.2 h, cond_false]; rfl
  · simp only [S136_0]
    rw [hL, decide_eq_false (Int.lt_irrefl _), cond_false, hl]
end
/-- Mean and MeanCube -/
noncomputable def meanV (of : Int → Int → Int × Int) (p : PN) (x : P3) (d : Int) : (Int × Int) × Int := if ck p x d = 0 then meanS (of (sc d)) p x d else ((0, 0), ck p x d)
theorem Mean_f (p : PN) (x : P3) (d : Int) : F64 p x d = meanV of1 p x d := by
  unfold F64 meanV
  rw [chk_eq]
  by_cases h : ck p x d = 0
  · obtain ⟨h1, h2, h3⟩ := ck_ok h
    rw [h, mean1_f (vp_ok h1).1 h2 h3]; rfl
  · rw [bne_iff_ne.2 h, if_neg h, cond_true]
theorem Mean_r (p : PN) (x : P3) (d : Int) : F66 p x d = meanV of1 p x d := by
  unfold F66 meanV
  rw [ask_eq]
  by_cases h : ck p x d = 0
  · obtain ⟨h1, h2, h3⟩ := ck_ok h
    rw [h, mean1_r (vp_ok h1).1 h2 h3]; rfl
  · rw [bne_iff_ne.2 h, if_neg h, cond_true]
end Go.Proofs.YtnkeljlllagddaaGreat

namespace Go.Proofs.YtnkeljlllagddaaGreat
open Go.Proofs Go.Aw Go.RowKit
set_option maxRecDepth 100000
set_option linter.unusedVariables false
set_option linter.unusedSimpArgs false

/-! ### The rim -/
def IsUp (T r : Int) : Prop := 0 ≤ r ∧ T ≤ r * r ∧ (r = 0 ∨ (r - 1) * (r - 1) < T)
theorem IsUp.le {T r m : Int} (h : IsUp T r) (hm : 0 ≤ m) (h' : T ≤ m * m) : r ≤ m := by
  rcases Int.lt_or_le m r with hlt | hle
  · rcases h.2.2 with h0 | h0
    · omega
    · have := Int.mul_le_mul (show m ≤ r - 1 by omega) (show m ≤ r - 1 by omega) hm (by omega)
      omega
  · exact hle
theorem IsUp.eq {T a b : Int} (h : IsUp T a) (h' : IsUp T b) : a = b := Int.le_antisymm (h.le h'.1 h'.2.1) (h'.le h.1 h.2.1)
end Go.Proofs.YtnkeljlllagddaaGreat

namespace Go.Proofs.YtnkeljlllagddaaGreat
open Go.Proofs Go.Aw Go.RowKit
set_option maxRecDepth 100000
set_option linter.unusedVariables false
set_option linter.unusedSimpArgs false

/-! ### Between -/
/-! the normal of a part is the panel's -/
/-! sums of bounds -/
theorem okv_add {lo hi : Int} {v : Int × Int} {n : Nat} (h : okv v (n + 1)) (h1 : 0 ≤ lo ∧ lo ≤ hi ∧ hi ≤ 536870913) : okv (v.1 + lo, v.2 + hi) n := by
  unfold okv at *; simp only; omega
section
variable {p q : PN} {d : Int}
end
end Go.Proofs.YtnkeljlllagddaaGreat

namespace Go.Proofs.YtnkeljlllagddaaGreat
open Go.Proofs Go.Aw Go.RowKit
set_option maxRecDepth 100000
set_option linter.unusedVariables false
set_option linter.unusedSimpArgs false

theorem v1_ok {a : Int × Int} (h : ((F131_1 a : Int) != 0) = false) : -1099511627776 ≤ a.1 ∧ a.1 ≤ a.2 ∧ a.2 ≤ 1099511627776 := by
  have h : F131_1 a = 0 := by simpa using h
  unfold F131_1 at h
  cases h0 : F184 a with
  | false => rw [h0] at h; cases h
  | true =>
    unfold F184 at h0
    by_cases h1 : a.1 ≥ -1099511627776
    · by_cases h2 : a.1 ≤ a.2
      · rw [decide_eq_true h1, cond_true, decide_eq_true h2, cond_true] at h0
        exact ⟨h1, h2, of_decide_eq_true h0⟩
      · rw [decide_eq_true h1, cond_true, decide_eq_false h2, cond_false] at h0; cases h0
    · rw [decide_eq_false h1, cond_false] at h0; cases h0

/-- facet/span.whole -/
def F132 (a0 : Int) : Bool :=
  (bif (decide ((a0 : Int) ≥ (-1099511627776))) then
   (decide ((a0 : Int) ≤ 1099511627776))
  else
   false)

theorem C132 (a0 : Int) : Con Tryz.prog 132 [(iv a0)] [] (.v (.bool (F132 a0))) [] := by
  cases h0 : (decide ((a0 : Int) ≥ (-1099511627776))) with
  | true =>
    have q0 := of_decide_eq_true h0
    have e : (F132 a0) = (decide ((a0 : Int) ≤ 1099511627776)) := by simp only [F132, h0, cond_true, cond_false]
    rw [e]
    refine con_of (n := 9) Tryz.func132 rfl (ent Tryz.func132 (by kernel_rfl) rfl) (by show 1 ≤ Tryz.f132.ntmps; decide) (by kernel_rfl) trivial (fun cx hcx => ?_)
    exact ret_of (T := T0) hT hm (f := 5000) (orc := [.d true]) [] [] [] hcx
      (obs := [.eq (decide ((a0 : Int) ≥ (-1099511627776))) true]) (by kernel_rfl) ⟨h0, trivial⟩
  | false =>
    have q0 := of_decide_eq_false h0
    have e : (F132 a0) = false := by simp only [F132, h0, cond_true, cond_false]
    rw [e]
    refine con_of (n := 9) Tryz.func132 rfl (ent Tryz.func132 (by kernel_rfl) rfl) (by show 1 ≤ Tryz.f132.ntmps; decide) (by kernel_rfl) trivial (fun cx hcx => ?_)
    exact ret_of (T := T0) hT hm (f := 5000) (orc := [.d false]) [] [] [] hcx
      (obs := [.eq (decide ((a0 : Int) ≥ (-1099511627776))) false]) (by kernel_rfl) ⟨h0, trivial⟩

/-- facet/span.Scale -/
def F65 (a0 : Int × Int) (a1 : Int) : (Int × Int) × Int :=
  (bif (((F131_1 a0) : Int) != 0) then
   ((0, 0), (F131_1 a0))
  else
   (bif (!(F132 a1)) then
    ((0, 0), 1)
   else
    ((F134 (if ((F133 a0.2 a1) : Int) < (F133 a0.1 a1) then (F133 a0.2 a1) else (F133 a0.1 a1)) (if ((F133 a0.1 a1) : Int) < (F133 a0.2 a1) then (F133 a0.2 a1) else (F133 a0.1 a1))).1, (F134 (if ((F133 a0.2 a1) : Int) < (F133 a0.1 a1) then (F133 a0.2 a1) else (F133 a0.1 a1)) (if ((F133 a0.1 a1) : Int) < (F133 a0.2 a1) then (F133 a0.2 a1) else (F133 a0.1 a1))).2)))

noncomputable def oC65_0 (a0 : Int × Int) : Ob := .call 131 [(.s 0 0 1 2)] [(.live false false [(iv a0.1), (iv a0.2)])] (iv (F131_1 a0)) []
theorem C65 (a0 : Int × Int) (a1 : Int) : Con Tryz.prog 65 [(.a [(iv a0.1), (iv a0.2)]), (iv a1)] [] (.t [(.a (k2 (F65 a0 a1).1)), (iv (F65 a0 a1).2)]) [] := by
  cases h0 : (((F131_1 a0) : Int) != 0) with
  | true =>
    have q0 := bne_iff_ne.1 h0
    have e : (F65 a0 a1) = ((0, 0), (F131_1 a0)) := by simp only [F65, h0, cond_true, cond_false]
    rw [e]
    refine con_of (n := 9) Tryz.func65 rfl (ent Tryz.func65 (by kernel_rfl) rfl) (by show 2 ≤ Tryz.f65.ntmps; decide) (by kernel_rfl) trivial (fun cx hcx => ?_)
    exact ret_of (T := T0) hT hm (f := 5000) (orc := [.call [2] (iv (F131_1 a0)) [], .d true]) [] [] [] hcx
      (obs := [(oC65_0 a0), .eq (((F131_1 a0) : Int) != 0) true]) (by kernel_rfl) ⟨(C131_1 a0), h0, trivial⟩
  | false =>
    cases h1 : (!(F132 a1)) with
    | true =>
      have q0 := bne_eq_false_iff_eq.1 h0
      have e : (F65 a0 a1) = ((0, 0), 1) := by simp only [F65, h0, h1, cond_true, cond_false]
      rw [e]
      refine con_of (n := 9) Tryz.func65 rfl (ent Tryz.func65 (by kernel_rfl) rfl) (by show 2 ≤ Tryz.f65.ntmps; decide) (by kernel_rfl) trivial (fun cx hcx => ?_)
      exact ret_of (T := T0) hT hm (f := 5000) (orc := [.call [2] (iv (F131_1 a0)) [], .d false, .call [] (.v (.bool (F132 a1))) [], .d true]) [] [] [] hcx
        (obs := [(oC65_0 a0), .eq (((F131_1 a0) : Int) != 0) false, .call 132 [(iv a1)] [] (.v (.bool (F132 a1))) [], .eq (!(F132 a1)) true]) (by kernel_rfl) ⟨(C131_1 a0), h0, (C132 a1), h1, trivial⟩
    | false =>
      have q0 := bne_eq_false_iff_eq.1 h0
      have e : (F65 a0 a1) = ((F134 (if ((F133 a0.2 a1) : Int) < (F133 a0.1 a1) then (F133 a0.2 a1) else (F133 a0.1 a1)) (if ((F133 a0.1 a1) : Int) < (F133 a0.2 a1) then (F133 a0.2 a1) else (F133 a0.1 a1))).1, (F134 (if ((F133 a0.2 a1) : Int) < (F133 a0.1 a1) then (F133 a0.2 a1) else (F133 a0.1 a1)) (if ((F133 a0.1 a1) : Int) < (F133 a0.2 a1) then (F133 a0.2 a1) else (F133 a0.1 a1))).2) := by simp only [F65, h0, h1, cond_true, cond_false]
      rw [e]
      refine con_of (n := 9) Tryz.func65 rfl (ent Tryz.func65 (by kernel_rfl) rfl) (by show 2 ≤ Tryz.f65.ntmps; decide) (by kernel_rfl) trivial (fun cx hcx => ?_)
      exact ret_of (T := T0) hT hm (f := 5000) (orc := [.call [2] (iv (F131_1 a0)) [], .d false, .call [] (.v (.bool (F132 a1))) [], .d false, .call [] (iv (F133 a0.1 a1)) [], .call [] (iv (F133 a0.2 a1)) [], .call [] (.t [(.a (k2 (F134 (if ((F133 a0.2 a1) : Int) < (F133 a0.1 a1) then (F133 a0.2 a1) else (F133 a0.1 a1)) (if ((F133 a0.1 a1) : Int) < (F133 a0.2 a1) then (F133 a0.2 a1) else (F133 a0.1 a1))).1)), (iv (F134 (if ((F133 a0.2 a1) : Int) < (F133 a0.1 a1) then (F133 a0.2 a1) else (F133 a0.1 a1)) (if ((F133 a0.1 a1) : Int) < (F133 a0.2 a1) then (F133 a0.2 a1) else (F133 a0.1 a1))).2)]) []]) [] [] [] hcx
        (obs := [(oC65_0 a0), .eq (((F131_1 a0) : Int) != 0) false, .call 132 [(iv a1)] [] (.v (.bool (F132 a1))) [], .eq (!(F132 a1)) false, .call 133 [(iv a0.1), (iv a1)] [] (iv (F133 a0.1 a1)) [], .call 133 [(iv a0.2), (iv a1)] [] (iv (F133 a0.2 a1)) [], .call 134 [(iv (if ((F133 a0.2 a1) : Int) < (F133 a0.1 a1) then (F133 a0.2 a1) else (F133 a0.1 a1))), (iv (if ((F133 a0.1 a1) : Int) < (F133 a0.2 a1) then (F133 a0.2 a1) else (F133 a0.1 a1)))] [] (.t [(.a (k2 (F134 (if ((F133 a0.2 a1) : Int) < (F133 a0.1 a1) then (F133 a0.2 a1) else (F133 a0.1 a1)) (if ((F133 a0.1 a1) : Int) < (F133 a0.2 a1) then (F133 a0.2 a1) else (F133 a0.1 a1))).1)), (iv (F134 (if ((F133 a0.2 a1) : Int) < (F133 a0.1 a1) then (F133 a0.2 a1) else (F133 a0.1 a1)) (if ((F133 a0.1 a1) : Int) < (F133 a0.2 a1) then (F133 a0.2 a1) else (F133 a0.1 a1))).2)]) []]) (by kernel_rfl) ⟨(C131_1 a0), h0, (C132 a1), h1, (C133 a0.1 a1  (by have := v1_ok h0; omega)), (C133 a0.2 a1  (by have := v1_ok h0; omega)), (C134 (if ((F133 a0.2 a1) : Int) < (F133 a0.1 a1) then (F133 a0.2 a1) else (F133 a0.1 a1)) (if ((F133 a0.1 a1) : Int) < (F133 a0.2 a1) then (F133 a0.2 a1) else (F133 a0.1 a1))), trivial⟩

/-- facet/facetref01.size -/
def F207 (a0 : Int) : Int :=
  (bif (decide ((a0 : Int) < 0)) then
   (IntKind.wrap .u64 (W (0 - a0)))
  else
   (IntKind.wrap .u64 a0))

theorem C207 (a0 : Int) : Con Tryz.prog 207 [(iv a0)] [] (.v (.int .u64 (F207 a0))) [] := by
  cases h0 : (decide ((a0 : Int) < 0)) with
  | true =>
    have q0 := of_decide_eq_true h0
    have e : (F207 a0) = (IntKind.wrap .u64 (W (0 - a0))) := by simp only [F207, h0, cond_true, cond_false]
    rw [e]
    refine con_of (n := 9) Tryz.func207 rfl (ent Tryz.func207 (by kernel_rfl) rfl) (by show 1 ≤ Tryz.f207.ntmps; decide) (by kernel_rfl) trivial (fun cx hcx => ?_)
    exact ret_of (T := T0) hT hm (f := 5000) (orc := [.d true]) [] [] [] hcx
      (obs := [.eq (decide ((a0 : Int) < 0)) true]) (by kernel_rfl) ⟨h0, trivial⟩
  | false =>
    have q0 := of_decide_eq_false h0
    have e : (F207 a0) = (IntKind.wrap .u64 a0) := by simp only [F207, h0, cond_true, cond_false]
    rw [e]
    refine con_of (n := 9) Tryz.func207 rfl (ent Tryz.func207 (by kernel_rfl) rfl) (by show 1 ≤ Tryz.f207.ntmps; decide) (by kernel_rfl) trivial (fun cx hcx => ?_)
    exact ret_of (T := T0) hT hm (f := 5000) (orc := [.d false]) [] [] [] hcx
      (obs := [.eq (decide ((a0 : Int) < 0)) false]) (by kernel_rfl) ⟨h0, trivial⟩

/-- math/bits.Mul64 -/
def F166 (a0 : Int) (a1 : Int) : Int × Int :=
  ((IntKind.wrap .u64 ((IntKind.wrap .u64 ((IntKind.wrap .u64 ((Int.fdiv a0 (2 ^ (min (Int.toNat 32) 64))) * (Int.fdiv a1 (2 ^ (min (Int.toNat 32) 64))))) + (Int.fdiv (IntKind.wrap .u64 ((IntKind.wrap .u64 ((Int.fdiv a0 (2 ^ (min (Int.toNat 32) 64))) * (IntKind.wrap .u64 ((BitVec.ofInt 64 a1 &&& BitVec.ofInt 64 4294967295).toNat : Int)))) + (Int.fdiv (IntKind.wrap .u64 ((IntKind.wrap .u64 ((BitVec.ofInt 64 a0 &&& BitVec.ofInt 64 4294967295).toNat : Int)) * (IntKind.wrap .u64 ((BitVec.ofInt 64 a1 &&& BitVec.ofInt 64 4294967295).toNat : Int)))) (2 ^ (min (Int.toNat 32) 64))))) (2 ^ (min (Int.toNat 32) 64))))) + (Int.fdiv (IntKind.wrap .u64 ((IntKind.wrap .u64 ((BitVec.ofInt 64 (IntKind.wrap .u64 ((IntKind.wrap .u64 ((Int.fdiv a0 (2 ^ (min (Int.toNat 32) 64))) * (IntKind.wrap .u64 ((BitVec.ofInt 64 a1 &&& BitVec.ofInt 64 4294967295).toNat : Int)))) + (Int.fdiv (IntKind.wrap .u64 ((IntKind.wrap .u64 ((BitVec.ofInt 64 a0 &&& BitVec.ofInt 64 4294967295).toNat : Int)) * (IntKind.wrap .u64 ((BitVec.ofInt 64 a1 &&& BitVec.ofInt 64 4294967295).toNat : Int)))) (2 ^ (min (Int.toNat 32) 64))))) &&& BitVec.ofInt 64 4294967295).toNat : Int)) + (IntKind.wrap .u64 ((IntKind.wrap .u64 ((BitVec.ofInt 64 a0 &&& BitVec.ofInt 64 4294967295).toNat : Int)) * (Int.fdiv a1 (2 ^ (min (Int.toNat 32) 64))))))) (2 ^ (min (Int.toNat 32) 64))))), (IntKind.wrap .u64 (a0 * a1)))

theorem C166 (a0 : Int) (a1 : Int) : Con Tryz.prog 166 [(.v (.int .u64 a0)), (.v (.int .u64 a1))] [] (.t [(.v (.int .u64 (F166 a0 a1).1)), (.v (.int .u64 (F166 a0 a1).2))]) [] := by
  have e : (F166 a0 a1) = ((IntKind.wrap .u64 ((IntKind.wrap .u64 ((IntKind.wrap .u64 ((Int.fdiv a0 (2 ^ (min (Int.toNat 32) 64))) * (Int.fdiv a1 (2 ^ (min (Int.toNat 32) 64))))) + (Int.fdiv (IntKind.wrap .u64 ((IntKind.wrap .u64 ((Int.fdiv a0 (2 ^ (min (Int.toNat 32) 64))) * (IntKind.wrap .u64 ((BitVec.ofInt 64 a1 &&& BitVec.ofInt 64 4294967295).toNat : Int)))) + (Int.fdiv (IntKind.wrap .u64 ((IntKind.wrap .u64 ((BitVec.ofInt 64 a0 &&& BitVec.ofInt 64 4294967295).toNat : Int)) * (IntKind.wrap .u64 ((BitVec.ofInt 64 a1 &&& BitVec.ofInt 64 4294967295).toNat : Int)))) (2 ^ (min (Int.toNat 32) 64))))) (2 ^ (min (Int.toNat 32) 64))))) + (Int.fdiv (IntKind.wrap .u64 ((IntKind.wrap .u64 ((BitVec.ofInt 64 (IntKind.wrap .u64 ((IntKind.wrap .u64 ((Int.fdiv a0 (2 ^ (min (Int.toNat 32) 64))) * (IntKind.wrap .u64 ((BitVec.ofInt 64 a1 &&& BitVec.ofInt 64 4294967295).toNat : Int)))) + (Int.fdiv (IntKind.wrap .u64 ((IntKind.wrap .u64 ((BitVec.ofInt 64 a0 &&& BitVec.ofInt 64 4294967295).toNat : Int)) * (IntKind.wrap .u64 ((BitVec.ofInt 64 a1 &&& BitVec.ofInt 64 4294967295).toNat : Int)))) (2 ^ (min (Int.toNat 32) 64))))) &&& BitVec.ofInt 64 4294967295).toNat : Int)) + (IntKind.wrap .u64 ((IntKind.wrap .u64 ((BitVec.ofInt 64 a0 &&& BitVec.ofInt 64 4294967295).toNat : Int)) * (Int.fdiv a1 (2 ^ (min (Int.toNat 32) 64))))))) (2 ^ (min (Int.toNat 32) 64))))), (IntKind.wrap .u64 (a0 * a1))) := by simp only [F166]
  rw [e]
  refine con_of (n := 9) Tryz.func166 rfl (ent Tryz.func166 (by kernel_rfl) rfl) (by show 2 ≤ Tryz.f166.ntmps; decide) (by kernel_rfl) trivial (fun cx hcx => ?_)
  exact ret_of (T := T0) hT hm (f := 5000) (orc := []) [] [] [] hcx
    (obs := [.pr (0 ≤ (32 : Int)), .pr (0 ≤ (32 : Int)), .pr (0 ≤ (32 : Int)), .pr (0 ≤ (32 : Int)), .pr (0 ≤ (32 : Int))]) (by kernel_rfl) ⟨(show 0 ≤ (32 : Int) from by decide), (show 0 ≤ (32 : Int) from by decide), (show 0 ≤ (32 : Int) from by decide), (show 0 ≤ (32 : Int) from by decide), (show 0 ≤ (32 : Int) from by decide), trivial⟩

/-- facet/facetref01.product -/
def F139 (a0 : Int) (a1 : Int) : Int :=
  (bif (((F166 (F207 a0) (F207 a1)).1 : Int) == 0) then
   (bif (decide (((F166 (F207 a0) (F207 a1)).2 : Int) ≤ 1099511627776)) then
    (bif (!((decide ((a0 : Int) < 0)) == (decide ((a1 : Int) < 0)))) then
     (W (0 - (W (F166 (F207 a0) (F207 a1)).2)))
    else
     (W (F166 (F207 a0) (F207 a1)).2))
   else
    (bif (!((decide ((a0 : Int) < 0)) == (decide ((a1 : Int) < 0)))) then
     (-1099511627777)
    else
     1099511627777))
  else
   (bif (!((decide ((a0 : Int) < 0)) == (decide ((a1 : Int) < 0)))) then
    (-1099511627777)
   else
    1099511627777))

theorem C139 (a0 : Int) (a1 : Int) : Con Tryz.prog 139 [(iv a0), (iv a1)] [] (iv (F139 a0 a1)) [] := by
  cases h0 : (((F166 (F207 a0) (F207 a1)).1 : Int) == 0) with
  | true =>
    cases h1 : (decide (((F166 (F207 a0) (F207 a1)).2 : Int) ≤ 1099511627776)) with
    | true =>
      cases h2 : (!((decide ((a0 : Int) < 0)) == (decide ((a1 : Int) < 0)))) with
      | true =>
        have q0 := eq_of_beq h0
        have q1 := of_decide_eq_true h1
        have e : (F139 a0 a1) = (W (0 - (W (F166 (F207 a0) (F207 a1)).2))) := by simp only [F139, h0, h1, h2, cond_true, cond_false]
        rw [e]
        refine con_of (n := 9) Tryz.func139 rfl (ent Tryz.func139 (by kernel_rfl) rfl) (by show 2 ≤ Tryz.f139.ntmps; decide) (by kernel_rfl) trivial (fun cx hcx => ?_)
        exact ret_of (T := T0) hT hm (f := 5000) (orc := [.call [] (.v (.int .u64 (F207 a0))) [], .call [] (.v (.int .u64 (F207 a1))) [], .call [] (.t [(.v (.int .u64 (F166 (F207 a0) (F207 a1)).1)), (.v (.int .u64 (F166 (F207 a0) (F207 a1)).2))]) [], .d true, .d true, .d true]) [] [] [] hcx
          (obs := [.call 207 [(iv a0)] [] (.v (.int .u64 (F207 a0))) [], .call 207 [(iv a1)] [] (.v (.int .u64 (F207 a1))) [], .call 166 [(.v (.int .u64 (F207 a0))), (.v (.int .u64 (F207 a1)))] [] (.t [(.v (.int .u64 (F166 (F207 a0) (F207 a1)).1)), (.v (.int .u64 (F166 (F207 a0) (F207 a1)).2))]) [], .eq (((F166 (F207 a0) (F207 a1)).1 : Int) == 0) true, .eq (decide (((F166 (F207 a0) (F207 a1)).2 : Int) ≤ 1099511627776)) true, .eq (!((decide ((a0 : Int) < 0)) == (decide ((a1 : Int) < 0)))) true]) (by kernel_rfl) ⟨(C207 a0), (C207 a1), (C166 (F207 a0) (F207 a1)), h0, h1, h2, trivial⟩
      | false =>
        have q0 := eq_of_beq h0
        have q1 := of_decide_eq_true h1
        have e : (F139 a0 a1) = (W (F166 (F207 a0) (F207 a1)).2) := by simp only [F139, h0, h1, h2, cond_true, cond_false]
        rw [e]
        refine con_of (n := 9) Tryz.func139 rfl (ent Tryz.func139 (by kernel_rfl) rfl) (by show 2 ≤ Tryz.f139.ntmps; decide) (by kernel_rfl) trivial (fun cx hcx => ?_)
        exact ret_of (T := T0) hT hm (f := 5000) (orc := [.call [] (.v (.int .u64 (F207 a0))) [], .call [] (.v (.int .u64 (F207 a1))) [], .call [] (.t [(.v (.int .u64 (F166 (F207 a0) (F207 a1)).1)), (.v (.int .u64 (F166 (F207 a0) (F207 a1)).2))]) [], .d true, .d true, .d false]) [] [] [] hcx
          (obs := [.call 207 [(iv a0)] [] (.v (.int .u64 (F207 a0))) [], .call 207 [(iv a1)] [] (.v (.int .u64 (F207 a1))) [], .call 166 [(.v (.int .u64 (F207 a0))), (.v (.int .u64 (F207 a1)))] [] (.t [(.v (.int .u64 (F166 (F207 a0) (F207 a1)).1)), (.v (.int .u64 (F166 (F207 a0) (F207 a1)).2))]) [], .eq (((F166 (F207 a0) (F207 a1)).1 : Int) == 0) true, .eq (decide (((F166 (F207 a0) (F207 a1)).2 : Int) ≤ 1099511627776)) true, .eq (!((decide ((a0 : Int) < 0)) == (decide ((a1 : Int) < 0)))) false]) (by kernel_rfl) ⟨(C207 a0), (C207 a1), (C166 (F207 a0) (F207 a1)), h0, h1, h2, trivial⟩
    | false =>
      cases h2 : (!((decide ((a0 : Int) < 0)) == (decide ((a1 : Int) < 0)))) with
      | true =>
        have q0 := eq_of_beq h0
        have q1 := of_decide_eq_false h1
        have e : (F139 a0 a1) = (-1099511627777) := by simp only [F139, h0, h1, h2, cond_true, cond_false]
        rw [e]
        refine con_of (n := 9) Tryz.func139 rfl (ent Tryz.func139 (by kernel_rfl) rfl) (by show 2 ≤ Tryz.f139.ntmps; decide) (by kernel_rfl) trivial (fun cx hcx => ?_)
        exact ret_of (T := T0) hT hm (f := 5000) (orc := [.call [] (.v (.int .u64 (F207 a0))) [], .call [] (.v (.int .u64 (F207 a1))) [], .call [] (.t [(.v (.int .u64 (F166 (F207 a0) (F207 a1)).1)), (.v (.int .u64 (F166 (F207 a0) (F207 a1)).2))]) [], .d true, .d false, .d true]) [] [] [] hcx
          (obs := [.call 207 [(iv a0)] [] (.v (.int .u64 (F207 a0))) [], .call 207 [(iv a1)] [] (.v (.int .u64 (F207 a1))) [], .call 166 [(.v (.int .u64 (F207 a0))), (.v (.int .u64 (F207 a1)))] [] (.t [(.v (.int .u64 (F166 (F207 a0) (F207 a1)).1)), (.v (.int .u64 (F166 (F207 a0) (F207 a1)).2))]) [], .eq (((F166 (F207 a0) (F207 a1)).1 : Int) == 0) true, .eq (decide (((F166 (F207 a0) (F207 a1)).2 : Int) ≤ 1099511627776)) false, .eq (!((decide ((a0 : Int) < 0)) == (decide ((a1 : Int) < 0)))) true]) (by kernel_rfl) ⟨(C207 a0), (C207 a1), (C166 (F207 a0) (F207 a1)), h0, h1, h2, trivial⟩
      | false =>
        have q0 := eq_of_beq h0
        have q1 := of_decide_eq_false h1
        have e : (F139 a0 a1) = 1099511627777 := by simp only [F139, h0, h1, h2, cond_true, cond_false]
        rw [e]
        refine con_of (n := 9) Tryz.func139 rfl (ent Tryz.func139 (by kernel_rfl) rfl) (by show 2 ≤ Tryz.f139.ntmps; decide) (by kernel_rfl) trivial (fun cx hcx => ?_)
        exact ret_of (T := T0) hT hm (f := 5000) (orc := [.call [] (.v (.int .u64 (F207 a0))) [], .call [] (.v (.int .u64 (F207 a1))) [], .call [] (.t [(.v (.int .u64 (F166 (F207 a0) (F207 a1)).1)), (.v (.int .u64 (F166 (F207 a0) (F207 a1)).2))]) [], .d true, .d false, .d false]) [] [] [] hcx
          (obs := [.call 207 [(iv a0)] [] (.v (.int .u64 (F207 a0))) [], .call 207 [(iv a1)] [] (.v (.int .u64 (F207 a1))) [], .call 166 [(.v (.int .u64 (F207 a0))), (.v (.int .u64 (F207 a1)))] [] (.t [(.v (.int .u64 (F166 (F207 a0) (F207 a1)).1)), (.v (.int .u64 (F166 (F207 a0) (F207 a1)).2))]) [], .eq (((F166 (F207 a0) (F207 a1)).1 : Int) == 0) true, .eq (decide (((F166 (F207 a0) (F207 a1)).2 : Int) ≤ 1099511627776)) false, .eq (!((decide ((a0 : Int) < 0)) == (decide ((a1 : Int) < 0)))) false]) (by kernel_rfl) ⟨(C207 a0), (C207 a1), (C166 (F207 a0) (F207 a1)), h0, h1, h2, trivial⟩
  | false =>
    cases h1 : (!((decide ((a0 : Int) < 0)) == (decide ((a1 : Int) < 0)))) with
    | true =>
      have q0 := ne_of_beq_false h0
      have e : (F139 a0 a1) = (-1099511627777) := by simp only [F139, h0, h1, cond_true, cond_false]
      rw [e]
      refine con_of (n := 9) Tryz.func139 rfl (ent Tryz.func139 (by kernel_rfl) rfl) (by show 2 ≤ Tryz.f139.ntmps; decide) (by kernel_rfl) trivial (fun cx hcx => ?_)
      exact ret_of (T := T0) hT hm (f := 5000) (orc := [.call [] (.v (.int .u64 (F207 a0))) [], .call [] (.v (.int .u64 (F207 a1))) [], .call [] (.t [(.v (.int .u64 (F166 (F207 a0) (F207 a1)).1)), (.v (.int .u64 (F166 (F207 a0) (F207 a1)).2))]) [], .d false, .d true]) [] [] [] hcx
        (obs := [.call 207 [(iv a0)] [] (.v (.int .u64 (F207 a0))) [], .call 207 [(iv a1)] [] (.v (.int .u64 (F207 a1))) [], .call 166 [(.v (.int .u64 (F207 a0))), (.v (.int .u64 (F207 a1)))] [] (.t [(.v (.int .u64 (F166 (F207 a0) (F207 a1)).1)), (.v (.int .u64 (F166 (F207 a0) (F207 a1)).2))]) [], .eq (((F166 (F207 a0) (F207 a1)).1 : Int) == 0) false, .eq (!((decide ((a0 : Int) < 0)) == (decide ((a1 : Int) < 0)))) true]) (by kernel_rfl) ⟨(C207 a0), (C207 a1), (C166 (F207 a0) (F207 a1)), h0, h1, trivial⟩
    | false =>
      have q0 := ne_of_beq_false h0
      have e : (F139 a0 a1) = 1099511627777 := by simp only [F139, h0, h1, cond_true, cond_false]
      rw [e]
      refine con_of (n := 9) Tryz.func139 rfl (ent Tryz.func139 (by kernel_rfl) rfl) (by show 2 ≤ Tryz.f139.ntmps; decide) (by kernel_rfl) trivial (fun cx hcx => ?_)
      exact ret_of (T := T0) hT hm (f := 5000) (orc := [.call [] (.v (.int .u64 (F207 a0))) [], .call [] (.v (.int .u64 (F207 a1))) [], .call [] (.t [(.v (.int .u64 (F166 (F207 a0) (F207 a1)).1)), (.v (.int .u64 (F166 (F207 a0) (F207 a1)).2))]) [], .d false, .d false]) [] [] [] hcx
        (obs := [.call 207 [(iv a0)] [] (.v (.int .u64 (F207 a0))) [], .call 207 [(iv a1)] [] (.v (.int .u64 (F207 a1))) [], .call 166 [(.v (.int .u64 (F207 a0))), (.v (.int .u64 (F207 a1)))] [] (.t [(.v (.int .u64 (F166 (F207 a0) (F207 a1)).1)), (.v (.int .u64 (F166 (F207 a0) (F207 a1)).2))]) [], .eq (((F166 (F207 a0) (F207 a1)).1 : Int) == 0) false, .eq (!((decide ((a0 : Int) < 0)) == (decide ((a1 : Int) < 0)))) false]) (by kernel_rfl) ⟨(C207 a0), (C207 a1), (C166 (F207 a0) (F207 a1)), h0, h1, trivial⟩

/-- facet/facetref01.Scale -/
def F67 (a0 : Int × Int) (a1 : Int) : (Int × Int) × Int :=
  (bif (!(F110 a0)) then
   ((0, 0), 1)
  else
   (bif (!(F137 a1 (-1099511627776) 1099511627776)) then
    ((0, 0), 1)
   else
    (bif (decide ((a1 : Int) < 0)) then
     ((F138 (F139 a0.2 a1) (F139 a0.1 a1)).1, (F138 (F139 a0.2 a1) (F139 a0.1 a1)).2)
    else
     ((F138 (F139 a0.1 a1) (F139 a0.2 a1)).1, (F138 (F139 a0.1 a1) (F139 a0.2 a1)).2))))

noncomputable def oC67_0 (a0 : Int × Int) : Ob := .call 110 [(.a [(iv a0.1), (iv a0.2)])] [] (.v (.bool (F110 a0))) []
noncomputable def oC67_1 (a1 : Int) : Ob := .call 137 [(iv a1), (iv (-1099511627776)), (iv 1099511627776)] [] (.v (.bool (F137 a1 (-1099511627776) 1099511627776))) []
theorem C67 (a0 : Int × Int) (a1 : Int) : Con Tryz.prog 67 [(.a [(iv a0.1), (iv a0.2)]), (iv a1)] [] (.t [(.a (k2 (F67 a0 a1).1)), (iv (F67 a0 a1).2)]) [] := by
  cases h0 : (!(F110 a0)) with
  | true =>
    have e : (F67 a0 a1) = ((0, 0), 1) := by simp only [F67, h0, cond_true, cond_false]
    rw [e]
    refine con_of (n := 9) Tryz.func67 rfl (ent Tryz.func67 (by kernel_rfl) rfl) (by show 2 ≤ Tryz.f67.ntmps; decide) (by kernel_rfl) trivial (fun cx hcx => ?_)
    exact ret_of (T := T0) hT hm (f := 5000) (orc := [.call [] (.v (.bool (F110 a0))) [], .d true]) [] [] [] hcx
      (obs := [(oC67_0 a0), .eq (!(F110 a0)) true]) (by kernel_rfl) ⟨(C110 a0), h0, trivial⟩
  | false =>
    cases h1 : (!(F137 a1 (-1099511627776) 1099511627776)) with
    | true =>
      have e : (F67 a0 a1) = ((0, 0), 1) := by simp only [F67, h0, h1, cond_true, cond_false]
      rw [e]
      refine con_of (n := 9) Tryz.func67 rfl (ent Tryz.func67 (by kernel_rfl) rfl) (by show 2 ≤ Tryz.f67.ntmps; decide) (by kernel_rfl) trivial (fun cx hcx => ?_)
      exact ret_of (T := T0) hT hm (f := 5000) (orc := [.call [] (.v (.bool (F110 a0))) [], .d false, .call [] (.v (.bool (F137 a1 (-1099511627776) 1099511627776))) [], .d true]) [] [] [] hcx
        (obs := [(oC67_0 a0), .eq (!(F110 a0)) false, (oC67_1 a1), .eq (!(F137 a1 (-1099511627776) 1099511627776)) true]) (by kernel_rfl) ⟨(C110 a0), h0, (C137 a1 (-1099511627776) 1099511627776), h1, trivial⟩
    | false =>
      cases h2 : (decide ((a1 : Int) < 0)) with
      | true =>
        have q2 := of_decide_eq_true h2
        have e : (F67 a0 a1) = ((F138 (F139 a0.2 a1) (F139 a0.1 a1)).1, (F138 (F139 a0.2 a1) (F139 a0.1 a1)).2) := by simp only [F67, h0, h1, h2, cond_true, cond_false]
        rw [e]
        refine con_of (n := 9) Tryz.func67 rfl (ent Tryz.func67 (by kernel_rfl) rfl) (by show 2 ≤ Tryz.f67.ntmps; decide) (by kernel_rfl) trivial (fun cx hcx => ?_)
        exact ret_of (T := T0) hT hm (f := 5000) (orc := [.call [] (.v (.bool (F110 a0))) [], .d false, .call [] (.v (.bool (F137 a1 (-1099511627776) 1099511627776))) [], .d false, .d true, .call [] (iv (F139 a0.2 a1)) [], .call [] (iv (F139 a0.1 a1)) [], .call [] (.t [(.a (k2 (F138 (F139 a0.2 a1) (F139 a0.1 a1)).1)), (iv (F138 (F139 a0.2 a1) (F139 a0.1 a1)).2)]) []]) [] [] [] hcx
          (obs := [(oC67_0 a0), .eq (!(F110 a0)) false, (oC67_1 a1), .eq (!(F137 a1 (-1099511627776) 1099511627776)) false, .eq (decide ((a1 : Int) < 0)) true, .call 139 [(iv a0.2), (iv a1)] [] (iv (F139 a0.2 a1)) [], .call 139 [(iv a0.1), (iv a1)] [] (iv (F139 a0.1 a1)) [], .call 138 [(iv (F139 a0.2 a1)), (iv (F139 a0.1 a1))] [] (.t [(.a (k2 (F138 (F139 a0.2 a1) (F139 a0.1 a1)).1)), (iv (F138 (F139 a0.2 a1) (F139 a0.1 a1)).2)]) []]) (by kernel_rfl) ⟨(C110 a0), h0, (C137 a1 (-1099511627776) 1099511627776), h1, h2, (C139 a0.2 a1), (C139 a0.1 a1), (C138 (F139 a0.2 a1) (F139 a0.1 a1)), trivial⟩
      | false =>
        have q2 := of_decide_eq_false h2
        have e : (F67 a0 a1) = ((F138 (F139 a0.1 a1) (F139 a0.2 a1)).1, (F138 (F139 a0.1 a1) (F139 a0.2 a1)).2) := by simp only [F67, h0, h1, h2, cond_true, cond_false]
        rw [e]
        refine con_of (n := 9) Tryz.func67 rfl (ent Tryz.func67 (by kernel_rfl) rfl) (by show 2 ≤ Tryz.f67.ntmps; decide) (by kernel_rfl) trivial (fun cx hcx => ?_)
        exact ret_of (T := T0) hT hm (f := 5000) (orc := [.call [] (.v (.bool (F110 a0))) [], .d false, .call [] (.v (.bool (F137 a1 (-1099511627776) 1099511627776))) [], .d false, .d false, .call [] (iv (F139 a0.1 a1)) [], .call [] (iv (F139 a0.2 a1)) [], .call [] (.t [(.a (k2 (F138 (F139 a0.1 a1) (F139 a0.2 a1)).1)), (iv (F138 (F139 a0.1 a1) (F139 a0.2 a1)).2)]) []]) [] [] [] hcx
          (obs := [(oC67_0 a0), .eq (!(F110 a0)) false, (oC67_1 a1), .eq (!(F137 a1 (-1099511627776) 1099511627776)) false, .eq (decide ((a1 : Int) < 0)) false, .call 139 [(iv a0.1), (iv a1)] [] (iv (F139 a0.1 a1)) [], .call 139 [(iv a0.2), (iv a1)] [] (iv (F139 a0.2 a1)) [], .call 138 [(iv (F139 a0.1 a1)), (iv (F139 a0.2 a1))] [] (.t [(.a (k2 (F138 (F139 a0.1 a1) (F139 a0.2 a1)).1)), (iv (F138 (F139 a0.1 a1) (F139 a0.2 a1)).2)]) []]) (by kernel_rfl) ⟨(C110 a0), h0, (C137 a1 (-1099511627776) 1099511627776), h1, h2, (C139 a0.1 a1), (C139 a0.2 a1), (C138 (F139 a0.1 a1) (F139 a0.2 a1)), trivial⟩

end Go.Proofs.YtnkeljlllagddaaGreat

namespace Go.Proofs.YtnkeljlllagddaaGreat
open Go.Proofs Go.Aw Go.RowKit
set_option maxRecDepth 100000
set_option linter.unusedVariables false
set_option linter.unusedSimpArgs false

/-! ### Products that may be too large -/
theorem U_def (n : Int) : IntKind.wrap .u64 n = n % 18446744073709551616 := by
  simp [IntKind.wrap, IntKind.bits, IntKind.signed]
theorem fdiv32 (a : Int) : Int.fdiv a (2 ^ (min (Int.toNat 32) 64)) = a / 4294967296 := by
  rw [show (2 : Int) ^ (min (Int.toNat 32) 64) = 4294967296 from by kernel_rfl]
  exact Int.fdiv_eq_ediv_of_nonneg _ (by omega)
theorem and32 (a : Int) : ((BitVec.ofInt 64 a &&& BitVec.ofInt 64 4294967295).toNat : Int) = a % 4294967296 := by
  rw [BitVec.toNat_and, show (BitVec.ofInt 64 4294967295).toNat = 2 ^ 32 - 1 from by kernel_rfl, Nat.and_two_pow_sub_one_eq_mod, BitVec.toNat_ofInt]
  have h0 := Int.emod_nonneg a (show (18446744073709551616 : Int) ≠ 0 by omega)
  rw [show ((2 ^ 64 : Nat) : Int) = 18446744073709551616 from by kernel_rfl]
  have h1 : (((a % 18446744073709551616).toNat : Nat) : Int) = a % 18446744073709551616 := Int.toNat_of_nonneg h0
  rw [Int.natCast_emod, h1]
  show a % 18446744073709551616 % 4294967296 = _
  omega
theorem mul64 {x y : Int} (hx : 0 ≤ x ∧ x ≤ 1099511627776) (hy : 0 ≤ y ∧ y ≤ 1099511627776) : F166 x y = (x * y / 18446744073709551616, x * y % 18446744073709551616) := by
  unfold F166
  simp only [U_def, fdiv32, and32]
  have e0 : ∀ n : Int, n % 4294967296 % 18446744073709551616 = n % 4294967296 := fun n => by omega
  simp only [e0]
  have key : x * y = (x / 4294967296 * (y / 4294967296)) * 18446744073709551616 + (x / 4294967296 * (y % 4294967296) + x % 4294967296 * (y / 4294967296)) * 4294967296 + x % 4294967296 * (y % 4294967296) := by
    have h1 := Int.mul_ediv_add_emod x 4294967296
    have h2 := Int.mul_ediv_add_emod y 4294967296
    generalize x / 4294967296 = x1 at *
    generalize x % 4294967296 = x0 at *
    generalize y / 4294967296 = y1 at *
    generalize y % 4294967296 = y0 at *
    subst h1; subst h2; grind
  have b1 := mul_bd (a := 256) (b := 256) (x := x / 4294967296) (y := y / 4294967296) (by omega) (by omega)
  have b2 := mul_bd (a := 256) (b := 4294967295) (x := x / 4294967296) (y := y % 4294967296) (by omega) (by omega)
  have b3 := mul_bd (a := 4294967295) (b := 256) (x := x % 4294967296) (y := y / 4294967296) (by omega) (by omega)
  have b4 := mul_bd (a := 4294967295) (b := 4294967295) (x := x % 4294967296) (y := y % 4294967296) (by omega) (by omega)
  have n1 : 0 ≤ x / 4294967296 * (y / 4294967296) := Int.mul_nonneg (by omega) (by omega)
  have n2 : 0 ≤ x / 4294967296 * (y % 4294967296) := Int.mul_nonneg (by omega) (by omega)
  have n3 : 0 ≤ x % 4294967296 * (y / 4294967296) := Int.mul_nonneg (by omega) (by omega)
  have n4 : 0 ≤ x % 4294967296 * (y % 4294967296) := Int.mul_nonneg (by omega) (by omega)
  generalize x * y = m at *
  generalize x / 4294967296 * (y / 4294967296) = d at *
  generalize x / 4294967296 * (y % 4294967296) = b at *
  generalize x % 4294967296 * (y / 4294967296) = c at *
  generalize x % 4294967296 * (y % 4294967296) = a at *
  rw [Prod.mk.injEq]
  exact ⟨by omega, rfl⟩
/-- a product, or what stands for one that is too large -/
def sat (x n : Int) : Int := if 1099511627776 < x * n then 1099511627777 else if x * n < -1099511627776 then -1099511627777 else x * n
theorem ab_mul (x n : Int) : (x * n = (if x < 0 then 0 - x else x) * (if n < 0 then 0 - n else n) ∧ ((x < 0) = (n < 0))) ∨ (x * n = -((if x < 0 then 0 - x else x) * (if n < 0 then 0 - n else n)) ∧ ¬ ((x < 0) = (n < 0))) := by
  by_cases h1 : x < 0
  · by_cases h2 : n < 0
    · left; rw [if_pos h1, if_pos h2]; exact ⟨by grind, by simp [h1, h2]⟩
    · right; rw [if_pos h1, if_neg h2]; exact ⟨by grind, by simp [h1, h2]⟩
  · by_cases h2 : n < 0
    · right; rw [if_neg h1, if_pos h2]; exact ⟨by grind, by simp [h1, h2]⟩
    · left; rw [if_neg h1, if_neg h2]; exact ⟨by grind, by simp [h1, h2]⟩
theorem prod_r {x n : Int} (hx : -1099511627776 ≤ x ∧ x ≤ 1099511627776) (hn : -1099511627776 ≤ n ∧ n ≤ 1099511627776) : F139 x n = sat x n := by
  have hsz : ∀ z : Int, -1099511627776 ≤ z ∧ z ≤ 1099511627776 → F207 z = if z < 0 then 0 - z else z := by
    intro z hz
    unfold F207
    by_cases h : z < 0
    · rw [decide_eq_true h, cond_true, if_pos h, W_eq (by omega) (by omega), U_def]; omega
    · rw [decide_eq_false h, cond_false, if_neg h, U_def]; omega
  unfold F139 sat
  rw [hsz x hx, hsz n hn, mul64 (by split <;> omega) (by split <;> omega)]
  have hm := ab_mul x n
  have hnn : 0 ≤ (if x < 0 then 0 - x else x) * (if n < 0 then 0 - n else n) := Int.mul_nonneg (by split <;> omega) (by split <;> omega)
  generalize (if x < 0 then 0 - x else x) * (if n < 0 then 0 - n else n) = m at *
  have e : (!(decide (x < 0) == decide (n < 0))) = decide (x * n = -m ∧ ¬ ((x < 0) = (n < 0))) := by
    by_cases h1 : x < 0 <;> by_cases h2 : n < 0 <;> simp [h1, h2] at hm ⊢ <;> omega
  rw [e]
  simp only
  by_cases h1 : m / 18446744073709551616 = 0
  · rw [beq_iff_eq.2 h1, cond_true]
    have h2 : m % 18446744073709551616 = m := by omega
    rw [h2]
    by_cases h3 : m ≤ 1099511627776
    · rw [decide_eq_true h3, cond_true, W_eq (n := m) (by omega) (by omega), W_eq (n := 0 - m) (by omega) (by omega)]
      rcases hm with ⟨q1, q2⟩ | ⟨q1, q2⟩
      · rw [decide_eq_false (fun h => h.2 q2), cond_false, q1, if_neg (by omega), if_neg (by omega)]
      · rw [decide_eq_true ⟨q1, q2⟩, cond_true, q1, if_neg (by omega), if_neg (by omega)]; omega
    · rw [decide_eq_false h3, cond_false]
      rcases hm with ⟨q1, q2⟩ | ⟨q1, q2⟩
      · rw [decide_eq_false (fun h => h.2 q2), cond_false, q1, if_pos (by omega)]
      · rw [decide_eq_true ⟨q1, q2⟩, cond_true, q1, if_neg (by omega), if_pos (by omega)]
  · rw [beq_eq_false_iff_ne.2 h1, cond_false]
    rcases hm with ⟨q1, q2⟩ | ⟨q1, q2⟩
    · rw [decide_eq_false (fun h => h.2 q2), cond_false, q1, if_pos (by omega)]
    · rw [decide_eq_true ⟨q1, q2⟩, cond_true, q1, if_neg (by omega), if_pos (by omega)]

theorem prod_f {x n : Int} (hx : -1099511627776 ≤ x ∧ x ≤ 1099511627776) (hn : -1099511627776 ≤ n ∧ n ≤ 1099511627776) : F133 x n = sat x n := by
  have hm := ab_mul x n
  have ha : ∀ z : Int, (-1099511627776 ≤ z ∧ z ≤ 1099511627776) → (if (z : Int) < (W (0 - z)) then (W (0 - z)) else z) = if z < 0 then 0 - z else z := by
    intro z hz
    rw [W_eq (n := 0 - z) (by omega) (by omega)]
    (repeat' split) <;> omega
  unfold F133 sat
  rw [ha x hx, ha n hn]
  by_cases hx0 : x = 0
  · subst hx0; simp [W_eq]
  by_cases hn0 : n = 0
  · subst hn0; simp [W_eq]
  rw [bne_iff_ne.2 hx0, bne_iff_ne.2 hn0, cond_true, cond_true]
  have a1 : 1 ≤ (if x < 0 then 0 - x else x) ∧ (if x < 0 then 0 - x else x) ≤ 1099511627776 := by split <;> omega
  have a2 : 1 ≤ (if n < 0 then 0 - n else n) ∧ (if n < 0 then 0 - n else n) ≤ 1099511627776 := by split <;> omega
  have e : (!(decide (x < 0) == decide (n < 0))) = decide (x * n = -((if x < 0 then 0 - x else x) * (if n < 0 then 0 - n else n)) ∧ ¬ ((x < 0) = (n < 0))) := by
    by_cases h1 : x < 0 <;> by_cases h2 : n < 0 <;> simp [h1, h2] at hm ⊢ <;> omega
  rw [e]
  generalize (if x < 0 then 0 - x else x) = ax at *
  generalize (if n < 0 then 0 - n else n) = an at *
  rw [Int.tdiv_eq_ediv_of_nonneg (by omega)]
  obtain ⟨d1, d2, d3⟩ := quo_bd (N := 1099511627776) (n := ax) (by omega) (by omega)
  have d4 := Int.mul_ediv_add_emod 1099511627776 ax
  have d5 := Int.emod_lt_of_pos 1099511627776 (show 0 < ax by omega)
  rw [W_eq (n := 1099511627776 / ax) (by omega) (by omega)]
  have hbig : an > 1099511627776 / ax ↔ 1099511627776 < ax * an := by
    constructor
    · intro h
      have := Int.mul_le_mul_of_nonneg_left (show 1099511627776 / ax + 1 ≤ an by omega) (show 0 ≤ ax by omega)
      rw [Int.mul_add, Int.mul_one] at this; omega
    · intro h
      rcases Int.lt_or_le (1099511627776 / ax) an with h' | h'
      · exact h'
      · have := Int.mul_le_mul_of_nonneg_left h' (show 0 ≤ ax by omega)
        rw [Int.mul_comm] at d3; omega
  by_cases hb : an > 1099511627776 / ax
  · rw [decide_eq_true hb, cond_true]
    have := hbig.1 hb
    rcases hm with ⟨q1, q2⟩ | ⟨q1, q2⟩
    · rw [decide_eq_false (fun h => h.2 q2), cond_false, q1, if_pos (by omega)]
    · rw [decide_eq_true ⟨q1, q2⟩, cond_true, q1, if_neg (by omega), if_pos (by omega)]
  · rw [decide_eq_false hb, cond_false]
    have h1 : ax * an ≤ 1099511627776 := by
      rcases Int.lt_or_le 1099511627776 (ax * an) with h | h
      · exact absurd (hbig.2 h) hb
      · exact h
    have h2 : 0 ≤ ax * an := Int.mul_nonneg (by omega) (by omega)
    rcases hm with ⟨q1, q2⟩ | ⟨q1, q2⟩ <;> rw [q1, if_neg (by omega), if_neg (by omega)] <;> exact W_eq (by omega) (by omega)
theorem sat_mono {x y n : Int} (h : x ≤ y) (hn : 0 ≤ n) : sat x n ≤ sat y n := by
  have := Int.mul_le_mul_of_nonneg_right h hn
  unfold sat; (repeat' split) <;> omega
theorem sat_anti {x y n : Int} (h : x ≤ y) (hn : n ≤ 0) : sat y n ≤ sat x n := by
  have := Int.mul_le_mul_of_nonpos_right h hn
  unfold sat; (repeat' split) <;> omega
/-- the least span of the products -/
def scl (a : Int × Int) (n : Int) : Int × Int := if n < 0 then (sat a.2 n, sat a.1 n) else (sat a.1 n, sat a.2 n)
/-- a span that is valid -/
def vs (a : Int × Int) : Prop := -1099511627776 ≤ a.1 ∧ a.1 ≤ a.2 ∧ a.2 ≤ 1099511627776
theorem Scale_f {a : Int × Int} {n : Int} (ha : vs a) (hn : -1099511627776 ≤ n ∧ n ≤ 1099511627776) : F65 a n = F134 (scl a n).1 (scl a n).2 := by
  obtain ⟨h1, h2, h3⟩ := ha
  unfold F65 F131_1 F132
  rw [val_f (a := a.1) (b := a.2) h1 h2 h3, decide_eq_true (show n ≥ -1099511627776 from hn.1), decide_eq_true hn.2, prod_f (x := a.1) (by omega) hn, prod_f (x := a.2) (by omega) hn]
  show ((F134 _ _).1, (F134 _ _).2) = _
  unfold scl
  by_cases h : n < 0
  · have := sat_anti h2 (show n ≤ 0 by omega)
    rw [if_pos h]
    simp only
    rw [show (if (sat a.2 n : Int) < sat a.1 n then sat a.2 n else sat a.1 n) = sat a.2 n by split <;> omega, show (if (sat a.1 n : Int) < sat a.2 n then sat a.2 n else sat a.1 n) = sat a.1 n by split <;> omega]
  · have := sat_mono h2 (show 0 ≤ n by omega)
    rw [if_neg h]
    simp only
    rw [show (if (sat a.2 n : Int) < sat a.1 n then sat a.2 n else sat a.1 n) = sat a.1 n by split <;> omega, show (if (sat a.1 n : Int) < sat a.2 n then sat a.2 n else sat a.1 n) = sat a.2 n by split <;> omega]
theorem val_r {a b : Int} (h1 : -1099511627776 ≤ a) (h2 : a ≤ b) (h3 : b ≤ 1099511627776) : F110 (a, b) = true := val_f h1 h2 h3
theorem told_eq (a b : Int) : F138 a b = F134 a b := rfl
theorem Scale_r {a : Int × Int} {n : Int} (ha : vs a) (hn : -1099511627776 ≤ n ∧ n ≤ 1099511627776) : F67 a n = F134 (scl a n).1 (scl a n).2 := by
  obtain ⟨h1, h2, h3⟩ := ha
  unfold F67
  rw [val_r (a := a.1) (b := a.2) h1 h2 h3, within_eq1, decide_eq_true hn, prod_r (x := a.1) (by omega) hn, prod_r (x := a.2) (by omega) hn, told_eq, told_eq]
  unfold scl
  by_cases h : n < 0
  · rw [if_pos h, decide_eq_true h]; rfl
  · rw [if_neg h, decide_eq_false h]; rfl
/-! halves -/
theorem res_cases (a b : Int) : (F134 a b = ((a, b), 0) ∧ vs (a, b)) ∨ F134 a b = ((0, 0), 4) := by
  by_cases h : vs (a, b)
  · exact Or.inl ⟨res_f h.1 h.2.1 h.2.2, h⟩
  · right
    unfold F134
    have : F184 (a, b) = false := by
      unfold F184
      by_cases h1 : (a, b).1 ≥ -1099511627776
      · by_cases h2 : (a, b).1 ≤ (a, b).2
        · rw [decide_eq_true h1, decide_eq_true h2, cond_true, cond_true]; exact decide_eq_false (fun h3 => h ⟨h1, h2, h3⟩)
        · rw [decide_eq_true h1, decide_eq_false h2]; rfl
      · rw [decide_eq_false h1]; rfl
    rw [this]; rfl

end Go.Proofs.YtnkeljlllagddaaGreat

namespace Go.Proofs.YtnkeljlllagddaaGreat
open Go.Proofs Go.Aw Go.RowKit
set_option maxRecDepth 100000
set_option linter.unusedVariables false
set_option linter.unusedSimpArgs false

/-! ### Solid angles -/
def ht (p : PN) (x : P3) : Int := dt (sb p.1 x) (cr (sb p.2.1 x) (sb p.2.2 x))
theorem avg_vs {v : Int × Int} {n : Int} (hn : n = 1 ∨ n = 4 ∨ n = 16 ∨ n = 64) (h : okv v 0) : vs (avg v n) := by
  unfold okv at h; unfold vs avg; simp only
  rcases hn with rfl | rfl | rfl | rfl <;> omega
theorem meanS_vs {of : Int → Int × Int} (ho : OfOk of) {p : PN} {x : P3} {d : Int} (hd : 0 ≤ d ∧ d ≤ 3) : ((meanS of p x d).2 = 0 ∧ vs (meanS of p x d).1) ∨ meanS of p x d = ((0, 0), 10) := by
  unfold meanS
  cases h : acc of (tm (sc d) x) (cutL d.toNat p) (0, 0) with
  | inl v => exact Or.inl ⟨rfl, avg_vs (cnt_in d) (acc_ok ho (okv_0 hd) h)⟩
  | inr r =>
    right
    have key : ∀ (l : List PN) (v : Int × Int) (r : (Int × Int) × Int), acc of (tm (sc d) x) l v = .inr r → r = ((0, 0), 10) := by
      intro l
      induction l with
      | nil => intro v r h; cases h
      | cons c l ih =>
        intro v r h
        unfold acc at h
        split at h
        · cases h; rfl
        · exact ih _ _ h
    exact key _ _ _ h
theorem meanV_vs {p : PN} {x : P3} {d : Int} {of : Int → Int → Int × Int} (ho : ∀ s, s = 1 ∨ s = 2 ∨ s = 4 ∨ s = 8 → OfOk (of s)) (h : (meanV of p x d).2 = 0) : ck p x d = 0 ∧ vs (meanV of p x d).1 := by
  unfold meanV at *
  by_cases hc : ck p x d = 0
  · rw [if_pos hc] at *
    refine ⟨hc, ?_⟩
    rcases meanS_vs (ho _ (sc_in d)) (p := p) (x := x) (ck_ok hc).2.2 with h1 | h1
    · exact h1.2
    · rw [h1] at h; cases h
  · rw [if_neg hc] at h; exact absurd h hc
theorem of1_all : ∀ s : Int, s = 1 ∨ s = 2 ∨ s = 4 ∨ s = 8 → OfOk (of1 s) := fun s h => of1_ok h
/-! ### Corners exchanged -/
end Go.Proofs.YtnkeljlllagddaaGreat

namespace Go.Proofs.YtnkeljlllagddaaGreat
open Go.Proofs Go.Aw Go.RowKit
set_option maxRecDepth 100000
set_option linter.unusedVariables false
set_option linter.unusedSimpArgs false

/-! ### Finer parts -/
/-! what is proved of a part holds of its parts -/
/-! sums -/
end Go.Proofs.YtnkeljlllagddaaGreat

namespace Go.Proofs.YtnkeljlllagddaaGreat
open Go.Proofs Go.Aw Go.RowKit
set_option maxRecDepth 100000
set_option linter.unusedVariables false
set_option linter.unusedSimpArgs false

end Go.Proofs.YtnkeljlllagddaaGreat

namespace Go.Proofs.YtnkeljlllagddaaGreat
open Go.Proofs Go.Aw Go.RowKit
set_option maxRecDepth 100000
set_option linter.unusedVariables false
set_option linter.unusedSimpArgs false

/-! ### Means of lists of spans -/
def sums : List (Int × Int) → Int × Int → Int × Int
  | [], v => v
  | a :: l, v => sums l (v.1 + a.1, v.2 + a.2)
def okE (a : Int × Int) : Prop := 0 ≤ a.1 ∧ a.1 ≤ a.2 ∧ a.2 ≤ 536870913
theorem sums_ok : ∀ {l : List (Int × Int)} {v : Int × Int}, (∀ a ∈ l, okE a) → okv v l.length → okv (sums l v) 0
  | [], v, _, h => h
  | a :: l, v, hl, h => sums_ok (l := l) (fun c hc => hl c (List.mem_cons_of_mem _ hc)) (okv_add h (hl a List.mem_cons_self))
theorem sums_loopF {R : Type} [Inhabited R] {S : Int × Int × Int → (Int × Int × Int) ⊕ R} {G : Int × Int → R} {L : List (Int × Int)} (hl : ∀ a ∈ L, okE a)
    (hS : ∀ (i : Nat) (a : Int × Int), L[i]? = some a → ∀ v1 v2 : Int, S (v1, v2, (i : Int)) = .inl (W (v1 + a.1), W (v2 + a.2), ((i + 1 : Nat) : Int)))
    (hE : ∀ v1 v2 : Int, S (v1, v2, (L.length : Int)) = .inr (G (v1, v2))) :
    ∀ (l : List (Int × Int)) (i n : Nat) (v : Int × Int), L.drop i = l → i ≤ L.length → l.length < n → okv v l.length → loopF S n (v.1, v.2, (i : Int)) = G (sums l v)
  | [], i, n, v, hd, hi', hn, h => by
    have : i = L.length := by have := List.drop_eq_nil_iff.1 hd; omega
    obtain ⟨n, rfl⟩ : ∃ m, n = m + 1 := ⟨n - 1, by simp only [List.length_nil] at hn; omega⟩
    subst this
    rw [loopF_inr (hE _ _)]; rfl
  | c :: l, i, n, v, hd, hi', hn, h => by
    have hc : L[i]? = some c := by
      have : (L.drop i)[0]? = some c := by rw [hd]; rfl
      simpa using this
    obtain ⟨hlt, hce⟩ := List.getElem?_eq_some_iff.1 hc
    obtain ⟨n, rfl⟩ : ∃ m, n = m + 1 := ⟨n - 1, by omega⟩
    have h1 := okv_add h (hl c (hce ▸ List.getElem_mem hlt))
    have h2 := h1
    unfold okv at h2; simp only at h2
    rw [loopF_inl (hS i c hc v.1 v.2), W_eq (by omega) (by omega), W_eq (by omega) (by omega)]
    exact sums_loopF hl hS hE l (i + 1) n _ (by rw [← List.drop_drop, hd]; rfl) (by omega) (by simp only [List.length_cons] at hn; omega) h1
section
variable {l : List (Int × Int)}
theorem okE_val {a : Int × Int} (h : okE a) : F184 a = true := val_f (a := a.1) (b := a.2) (by have := h.1; omega) h.2.1 (by have := h.2.2; omega)
theorem okv_len (hn : l.length ≤ 64) : okv (0, 0) l.length := by unfold okv; simp only; omega
theorem chkL (hl : ∀ a ∈ l, okE a) : F131_L l = 0 := by
  have key : ∀ (m : List (Int × Int)) (i n : Nat), l.drop i = m → i ≤ l.length → m.length < n → loopF (S131_L_0 l) n (i : Int) = 0 := by
    intro m
    induction m with
    | nil =>
      intro i n hd hi hn
      have : i = l.length := by have := List.drop_eq_nil_iff.1 hd; omega
      obtain ⟨n, rfl⟩ : ∃ m, n = m + 1 := ⟨n - 1, by simp only [List.length_nil] at hn; omega⟩
      subst this
      refine loopF_inr ?_
      simp only [S131_L_0]
      rw [decide_eq_false (Int.lt_irrefl _), cond_false]
    | cons c m ih =>
      intro i n hd hi hn
      have hc : l[i]? = some c := by
        have : (l.drop i)[0]? = some c := by rw [hd]; rfl
        simpa using this
      obtain ⟨hlt, hce⟩ := List.getElem?_eq_some_iff.1 hc
      obtain ⟨n, rfl⟩ : ∃ m, n = m + 1 := ⟨n - 1, by omega⟩
      have hg : l.getD i default = c := by rw [List.getD_eq_getElem?_getD, hc]; rfl
      have e : S131_L_0 l (i : Int) = .inl ((i + 1 : Nat) : Int) := by
        simp only [S131_L_0]
        rw [decide_eq_true (show ((i : Nat) : Int) < (l.length : Nat) by omega), cond_true, Int.toNat_natCast, hg, okE_val (hl c (hce ▸ List.getElem_mem hlt))]; rfl
      rw [loopF_inl e]
      exact ih (i + 1) n (by rw [← List.drop_drop, hd]; rfl) (by omega) (by simp only [List.length_cons] at hn; omega)
  unfold F131_L
  exact key l 0 _ rfl (Nat.zero_le _) (by omega)
theorem tot_f (hl : ∀ a ∈ l, okE a) (hn : l.length ≤ 64) : F147_L l = ((sums l (0, 0)).1, (sums l (0, 0)).2, 0) := by
  unfold F147_L
  rw [decide_eq_false (by omega), cond_false, chkL hl]
  show loopF _ _ (((0, 0) : Int × Int).1, ((0, 0) : Int × Int).2, ((0 : Nat) : Int)) = _
  refine sums_loopF (G := fun v => (v.1, v.2, 0)) hl (fun i a hi v1 v2 => ?_) (fun v1 v2 => ?_) l 0 _ (0, 0) rfl (Nat.zero_le _) (by omega) (okv_len hn)
  · obtain ⟨hlt, hce⟩ := List.getElem?_eq_some_iff.1 hi
    have hg : l.getD i default = a := by rw [List.getD_eq_getElem?_getD, hi]; rfl
    simp only [S147_L_0]
    rw [decide_eq_true (show ((i : Nat) : Int) < (l.length : Nat) by omega), cond_true, Int.toNat_natCast, hg]; rfl
  · simp only [S147_L_0]
    rw [decide_eq_false (Int.lt_irrefl _), cond_false]
theorem tot_r (hl : ∀ a ∈ l, okE a) (hn : l.length ≤ 64) : F140_L l = ((sums l (0, 0)).1, (sums l (0, 0)).2, 0) := by
  unfold F140_L
  rw [decide_eq_false (by omega), cond_false]
  show loopF _ _ (((0, 0) : Int × Int).1, ((0, 0) : Int × Int).2, ((0 : Nat) : Int)) = _
  refine sums_loopF (G := fun v => (v.1, v.2, 0)) hl (fun i a hi v1 v2 => ?_) (fun v1 v2 => ?_) l 0 _ (0, 0) rfl (Nat.zero_le _) (by omega) (okv_len hn)
  · obtain ⟨hlt, hce⟩ := List.getElem?_eq_some_iff.1 hi
    have hg : l.getD i default = a := by rw [List.getD_eq_getElem?_getD, hi]; rfl
    simp only [S140_L_0]
    rw [decide_eq_true (show ((i : Nat) : Int) < (l.length : Nat) by omega), cond_true, Int.toNat_natCast, hg, show F110 a = true from okE_val (hl a (hce ▸ List.getElem_mem hlt))]; rfl
  · simp only [S140_L_0]
    rw [decide_eq_false (Int.lt_irrefl _), cond_false]
theorem avg_bd {v : Int × Int} {n : Int} (hn : n = 1 ∨ n = 4 ∨ n = 16 ∨ n = 64) (h : okv v 0) : -1099511627776 ≤ v.1 / n ∧ v.1 / n ≤ -(-v.2 / n) ∧ -(-v.2 / n) ≤ 1099511627776 := by
  unfold okv at h; rcases hn with rfl | rfl | rfl | rfl <;> omega
theorem meanL_f (hl : ∀ a ∈ l, okE a) {n : Int} (hn : n = 1 ∨ n = 4 ∨ n = 16 ∨ n = 64) (hk : ((l.length : Nat) : Int) = n) : F177_L l = (avg (sums l (0, 0)) n, 0) := by
  have h64 : l.length ≤ 64 := by omega
  have ho := sums_ok hl (okv_len h64)
  have hb := avg_bd hn ho
  unfold okv at ho
  unfold F177_L
  rw [tot_f hl h64, hk, beq_eq_false_iff_ne.2 (show n ≠ 0 by omega), dn_f hn (by simp only; omega), up_f hn (by simp only; omega), res_f hb.1 hb.2.1 hb.2.2]; rfl
theorem meanL_r (hl : ∀ a ∈ l, okE a) {n : Int} (hn : n = 1 ∨ n = 4 ∨ n = 16 ∨ n = 64) (hk : ((l.length : Nat) : Int) = n) : F179_L l = (avg (sums l (0, 0)) n, 0) := by
  have h64 : l.length ≤ 64 := by omega
  have ho := sums_ok hl (okv_len h64)
  have hb := avg_bd hn ho
  unfold okv at ho
  unfold F179_L
  rw [tot_r hl h64, hk, beq_eq_false_iff_ne.2 (show n ≠ 0 by omega), dn_r hn (by simp only; omega), up_r hn (by simp only; omega), res_r hb.1 hb.2.1 hb.2.2]; rfl
end
/-! ### The mean over two panels -/
end Go.Proofs.YtnkeljlllagddaaGreat

namespace Go.Proofs.YtnkeljlllagddaaGreat
open Go.Proofs Go.Aw Go.RowKit
set_option maxRecDepth 100000
set_option linter.unusedVariables false
set_option linter.unusedSimpArgs false

/-- facet/sound.square -/
def F186 (a0 : Int) : Int :=
  (W (a0 * a0))

theorem C186 (a0 : Int) : Con Tryz.prog 186 [(iv a0)] [] (iv (F186 a0)) [] := by
  have e : (F186 a0) = (W (a0 * a0)) := by simp only [F186]
  rw [e]
  refine con_of (n := 9) Tryz.func186 rfl (ent Tryz.func186 (by kernel_rfl) rfl) (by show 1 ≤ Tryz.f186.ntmps; decide) (by kernel_rfl) trivial (fun cx hcx => ?_)
  exact ret_of (T := T0) hT hm (f := 5000) (orc := []) [] [] [] hcx
    (obs := []) (by kernel_rfl) trivial

/-- facet/sound.corners -/
def F227 (a0 : (Int × Int × Int) × (Int × Int × Int) × Int × Int × Int) : (Int × Int × Int) × (Int × Int × Int) × Int × Int × Int :=
  a0

theorem C227 (a0 : (Int × Int × Int) × (Int × Int × Int) × Int × Int × Int) : Con Tryz.prog 227 [(.a (k9 a0))] [] (.a (k9 (F227 a0))) [] := by
  have e : (F227 a0) = a0 := by simp only [F227]
  rw [e]
  refine con_of (n := 9) Tryz.func227 rfl (ent Tryz.func227 (by kernel_rfl) rfl) (by show 1 ≤ Tryz.f227.ntmps; decide) (by kernel_rfl) trivial (fun cx hcx => ?_)
  exact ret_of (T := T0) hT hm (f := 5000) (orc := []) [] [] [] hcx
    (obs := []) (by kernel_rfl) trivial

/-- facet/sound.distance -/
def F114 (a0 : Int × Int × Int) (a1 : Int × Int × Int) : Int :=
  (W ((W ((F186 (W (a0.1 - a1.1))) + (F186 (W (a0.2.1 - a1.2.1))))) + (F186 (W (a0.2.2 - a1.2.2)))))

theorem C114 (a0 : Int × Int × Int) (a1 : Int × Int × Int) : Con Tryz.prog 114 [(.a (k3 a0)), (.a (k3 a1))] [] (iv (F114 a0 a1)) [] := by
  have e : (F114 a0 a1) = (W ((W ((F186 (W (a0.1 - a1.1))) + (F186 (W (a0.2.1 - a1.2.1))))) + (F186 (W (a0.2.2 - a1.2.2))))) := by simp only [F114]
  rw [e]
  refine con_of (n := 9) Tryz.func114 rfl (ent Tryz.func114 (by kernel_rfl) rfl) (by show 2 ≤ Tryz.f114.ntmps; decide) (by kernel_rfl) trivial (fun cx hcx => ?_)
  exact ret_of (T := T0) hT hm (f := 5000) (orc := [.call [] (iv (F186 (W (a0.1 - a1.1)))) [], .call [] (iv (F186 (W (a0.2.1 - a1.2.1)))) [], .call [] (iv (F186 (W (a0.2.2 - a1.2.2)))) []]) [] [] [] hcx
    (obs := [.call 186 [(iv (W (a0.1 - a1.1)))] [] (iv (F186 (W (a0.1 - a1.1)))) [], .call 186 [(iv (W (a0.2.1 - a1.2.1)))] [] (iv (F186 (W (a0.2.1 - a1.2.1)))) [], .call 186 [(iv (W (a0.2.2 - a1.2.2)))] [] (iv (F186 (W (a0.2.2 - a1.2.2)))) []]) (by kernel_rfl) ⟨(C186 (W (a0.1 - a1.1))), (C186 (W (a0.2.1 - a1.2.1))), (C186 (W (a0.2.2 - a1.2.2))), trivial⟩

/-- facet/sound.far -/
def F190 (a0 : (Int × Int × Int) × (Int × Int × Int) × Int × Int × Int) (a1 : Int × Int × Int) : Int :=
  (if ((if ((if (0 : Int) < (F114 (F227 a0).1 a1) then (F114 (F227 a0).1 a1) else 0) : Int) < (F114 (F227 a0).2.1 a1) then (F114 (F227 a0).2.1 a1) else (if (0 : Int) < (F114 (F227 a0).1 a1) then (F114 (F227 a0).1 a1) else 0)) : Int) < (F114 (F227 a0).2.2 a1) then (F114 (F227 a0).2.2 a1) else (if ((if (0 : Int) < (F114 (F227 a0).1 a1) then (F114 (F227 a0).1 a1) else 0) : Int) < (F114 (F227 a0).2.1 a1) then (F114 (F227 a0).2.1 a1) else (if (0 : Int) < (F114 (F227 a0).1 a1) then (F114 (F227 a0).1 a1) else 0)))

theorem C190 (a0 : (Int × Int × Int) × (Int × Int × Int) × Int × Int × Int) (a1 : Int × Int × Int) : Con Tryz.prog 190 [(.a (k9 a0)), (.a (k3 a1))] [] (iv (F190 a0 a1)) [] := by
  have e : (F190 a0 a1) = (if ((if ((if (0 : Int) < (F114 (F227 a0).1 a1) then (F114 (F227 a0).1 a1) else 0) : Int) < (F114 (F227 a0).2.1 a1) then (F114 (F227 a0).2.1 a1) else (if (0 : Int) < (F114 (F227 a0).1 a1) then (F114 (F227 a0).1 a1) else 0)) : Int) < (F114 (F227 a0).2.2 a1) then (F114 (F227 a0).2.2 a1) else (if ((if (0 : Int) < (F114 (F227 a0).1 a1) then (F114 (F227 a0).1 a1) else 0) : Int) < (F114 (F227 a0).2.1 a1) then (F114 (F227 a0).2.1 a1) else (if (0 : Int) < (F114 (F227 a0).1 a1) then (F114 (F227 a0).1 a1) else 0))) := by simp only [F190]
  rw [e]
  refine con_of (n := 9) Tryz.func190 rfl (ent Tryz.func190 (by kernel_rfl) rfl) (by show 2 ≤ Tryz.f190.ntmps; decide) (by kernel_rfl) trivial (fun cx hcx => ?_)
  exact ret_of (T := T0) hT hm (f := 5000) (orc := [.call [] (.a (k9 (F227 a0))) [], .un 200, .d true, .call [] (iv (F114 (F227 a0).1 a1)) [], .un 0, .d true, .call [] (iv (F114 (F227 a0).2.1 a1)) [], .un 0, .d true, .call [] (iv (F114 (F227 a0).2.2 a1)) [], .un 0, .d false]) [] [] [] hcx
    (obs := [.call 227 [(.a (k9 a0))] [] (.a (k9 (F227 a0))) [], .eq true true, .pr (0 ≤ (0 : Int) ∧ (0 : Int) < ((3 : Nat) : Int)), .call 114 [(.a (k3 (F227 a0).1)), (.a (k3 a1))] [] (iv (F114 (F227 a0).1 a1)) [], .eq true true, .pr (0 ≤ (1 : Int) ∧ (1 : Int) < ((3 : Nat) : Int)), .call 114 [(.a (k3 (F227 a0).2.1)), (.a (k3 a1))] [] (iv (F114 (F227 a0).2.1 a1)) [], .eq true true, .pr (0 ≤ (2 : Int) ∧ (2 : Int) < ((3 : Nat) : Int)), .call 114 [(.a (k3 (F227 a0).2.2)), (.a (k3 a1))] [] (iv (F114 (F227 a0).2.2 a1)) [], .eq false false]) (by kernel_rfl) ⟨(C227 a0), rfl, (show 0 ≤ (0 : Int) ∧ (0 : Int) < ((3 : Nat) : Int) from by decide), (C114 (F227 a0).1 a1), rfl, (show 0 ≤ (1 : Int) ∧ (1 : Int) < ((3 : Nat) : Int) from by decide), (C114 (F227 a0).2.1 a1), rfl, (show 0 ≤ (2 : Int) ∧ (2 : Int) < ((3 : Nat) : Int) from by decide), (C114 (F227 a0).2.2 a1), rfl, trivial⟩

/-- facet/sound.gap at (3,) -/
def F225_3 (a0 : Int) (a1 : (Int) × (Int) × (Int)) : Int :=
  (if ((if (0 : Int) < (W ((if (a1.2.2 : Int) < (if (a1.2.1 : Int) < (if (a1.1 : Int) < a1.1 then a1.1 else a1.1) then a1.2.1 else (if (a1.1 : Int) < a1.1 then a1.1 else a1.1)) then a1.2.2 else (if (a1.2.1 : Int) < (if (a1.1 : Int) < a1.1 then a1.1 else a1.1) then a1.2.1 else (if (a1.1 : Int) < a1.1 then a1.1 else a1.1))) - a0)) then (W ((if (a1.2.2 : Int) < (if (a1.2.1 : Int) < (if (a1.1 : Int) < a1.1 then a1.1 else a1.1) then a1.2.1 else (if (a1.1 : Int) < a1.1 then a1.1 else a1.1)) then a1.2.2 else (if (a1.2.1 : Int) < (if (a1.1 : Int) < a1.1 then a1.1 else a1.1) then a1.2.1 else (if (a1.1 : Int) < a1.1 then a1.1 else a1.1))) - a0)) else 0) : Int) < (W (a0 - (if ((if ((if (a1.1 : Int) < a1.1 then a1.1 else a1.1) : Int) < a1.2.1 then a1.2.1 else (if (a1.1 : Int) < a1.1 then a1.1 else a1.1)) : Int) < a1.2.2 then a1.2.2 else (if ((if (a1.1 : Int) < a1.1 then a1.1 else a1.1) : Int) < a1.2.1 then a1.2.1 else (if (a1.1 : Int) < a1.1 then a1.1 else a1.1))))) then (W (a0 - (if ((if ((if (a1.1 : Int) < a1.1 then a1.1 else a1.1) : Int) < a1.2.1 then a1.2.1 else (if (a1.1 : Int) < a1.1 then a1.1 else a1.1)) : Int) < a1.2.2 then a1.2.2 else (if ((if (a1.1 : Int) < a1.1 then a1.1 else a1.1) : Int) < a1.2.1 then a1.2.1 else (if (a1.1 : Int) < a1.1 then a1.1 else a1.1))))) else (if (0 : Int) < (W ((if (a1.2.2 : Int) < (if (a1.2.1 : Int) < (if (a1.1 : Int) < a1.1 then a1.1 else a1.1) then a1.2.1 else (if (a1.1 : Int) < a1.1 then a1.1 else a1.1)) then a1.2.2 else (if (a1.2.1 : Int) < (if (a1.1 : Int) < a1.1 then a1.1 else a1.1) then a1.2.1 else (if (a1.1 : Int) < a1.1 then a1.1 else a1.1))) - a0)) then (W ((if (a1.2.2 : Int) < (if (a1.2.1 : Int) < (if (a1.1 : Int) < a1.1 then a1.1 else a1.1) then a1.2.1 else (if (a1.1 : Int) < a1.1 then a1.1 else a1.1)) then a1.2.2 else (if (a1.2.1 : Int) < (if (a1.1 : Int) < a1.1 then a1.1 else a1.1) then a1.2.1 else (if (a1.1 : Int) < a1.1 then a1.1 else a1.1))) - a0)) else 0))

theorem C225_3 (a0 : Int) (a1 : (Int) × (Int) × (Int)) : Con Tryz.prog 225 [(iv a0), (.s 0 0 3 1)] [(.live false false (k3 a1))] (iv (F225_3 a0 a1)) [] := by
  have e : (F225_3 a0 a1) = (if ((if (0 : Int) < (W ((if (a1.2.2 : Int) < (if (a1.2.1 : Int) < (if (a1.1 : Int) < a1.1 then a1.1 else a1.1) then a1.2.1 else (if (a1.1 : Int) < a1.1 then a1.1 else a1.1)) then a1.2.2 else (if (a1.2.1 : Int) < (if (a1.1 : Int) < a1.1 then a1.1 else a1.1) then a1.2.1 else (if (a1.1 : Int) < a1.1 then a1.1 else a1.1))) - a0)) then (W ((if (a1.2.2 : Int) < (if (a1.2.1 : Int) < (if (a1.1 : Int) < a1.1 then a1.1 else a1.1) then a1.2.1 else (if (a1.1 : Int) < a1.1 then a1.1 else a1.1)) then a1.2.2 else (if (a1.2.1 : Int) < (if (a1.1 : Int) < a1.1 then a1.1 else a1.1) then a1.2.1 else (if (a1.1 : Int) < a1.1 then a1.1 else a1.1))) - a0)) else 0) : Int) < (W (a0 - (if ((if ((if (a1.1 : Int) < a1.1 then a1.1 else a1.1) : Int) < a1.2.1 then a1.2.1 else (if (a1.1 : Int) < a1.1 then a1.1 else a1.1)) : Int) < a1.2.2 then a1.2.2 else (if ((if (a1.1 : Int) < a1.1 then a1.1 else a1.1) : Int) < a1.2.1 then a1.2.1 else (if (a1.1 : Int) < a1.1 then a1.1 else a1.1))))) then (W (a0 - (if ((if ((if (a1.1 : Int) < a1.1 then a1.1 else a1.1) : Int) < a1.2.1 then a1.2.1 else (if (a1.1 : Int) < a1.1 then a1.1 else a1.1)) : Int) < a1.2.2 then a1.2.2 else (if ((if (a1.1 : Int) < a1.1 then a1.1 else a1.1) : Int) < a1.2.1 then a1.2.1 else (if (a1.1 : Int) < a1.1 then a1.1 else a1.1))))) else (if (0 : Int) < (W ((if (a1.2.2 : Int) < (if (a1.2.1 : Int) < (if (a1.1 : Int) < a1.1 then a1.1 else a1.1) then a1.2.1 else (if (a1.1 : Int) < a1.1 then a1.1 else a1.1)) then a1.2.2 else (if (a1.2.1 : Int) < (if (a1.1 : Int) < a1.1 then a1.1 else a1.1) then a1.2.1 else (if (a1.1 : Int) < a1.1 then a1.1 else a1.1))) - a0)) then (W ((if (a1.2.2 : Int) < (if (a1.2.1 : Int) < (if (a1.1 : Int) < a1.1 then a1.1 else a1.1) then a1.2.1 else (if (a1.1 : Int) < a1.1 then a1.1 else a1.1)) then a1.2.2 else (if (a1.2.1 : Int) < (if (a1.1 : Int) < a1.1 then a1.1 else a1.1) then a1.2.1 else (if (a1.1 : Int) < a1.1 then a1.1 else a1.1))) - a0)) else 0)) := by simp only [F225_3]
  rw [e]
  refine con_of (n := 9) Tryz.func225 rfl (ent Tryz.func225 (by kernel_rfl) rfl) (by show 2 ≤ Tryz.f225.ntmps; decide) (by kernel_rfl) ⟨rfl, trivial⟩ (fun cx hcx => ?_)
  exact ret_of (T := T0) hT hm (f := 5000) (orc := [.un 200, .d true, .un 0, .d true, .un 0, .d true, .un 0, .d false]) [] [] [] hcx
    (obs := [.pr (0 ≤ (0 : Int) ∧ (0 : Int) < ((3 : Nat) : Int)), .pr (0 ≤ (0 : Int) ∧ (0 : Int) < ((3 : Nat) : Int)), .eq true true, .pr (0 ≤ (0 : Int) ∧ (0 : Int) < ((3 : Nat) : Int)), .eq true true, .pr (0 ≤ (1 : Int) ∧ (1 : Int) < ((3 : Nat) : Int)), .eq true true, .pr (0 ≤ (2 : Int) ∧ (2 : Int) < ((3 : Nat) : Int)), .eq false false]) (by kernel_rfl) ⟨(show 0 ≤ (0 : Int) ∧ (0 : Int) < ((3 : Nat) : Int) from by decide), (show 0 ≤ (0 : Int) ∧ (0 : Int) < ((3 : Nat) : Int) from by decide), rfl, (show 0 ≤ (0 : Int) ∧ (0 : Int) < ((3 : Nat) : Int) from by decide), rfl, (show 0 ≤ (1 : Int) ∧ (1 : Int) < ((3 : Nat) : Int) from by decide), rfl, (show 0 ≤ (2 : Int) ∧ (2 : Int) < ((3 : Nat) : Int) from by decide), rfl, trivial⟩

/-- facet/sound.near -/
def F187 (a0 : (Int × Int × Int) × (Int × Int × Int) × Int × Int × Int) (a1 : Int × Int × Int) : Int :=
  (W ((W ((F186 (F225_3 a1.1 (a0.1.1, a0.2.1.1, a0.2.2.1))) + (F186 (F225_3 a1.2.1 (a0.1.2.1, a0.2.1.2.1, a0.2.2.2.1))))) + (F186 (F225_3 a1.2.2 (a0.1.2.2, a0.2.1.2.2, a0.2.2.2.2)))))

theorem C187 (a0 : (Int × Int × Int) × (Int × Int × Int) × Int × Int × Int) (a1 : Int × Int × Int) : Con Tryz.prog 187 [(.a (k9 a0)), (.a (k3 a1))] [] (iv (F187 a0 a1)) [] := by
  have e : (F187 a0 a1) = (W ((W ((F186 (F225_3 a1.1 (a0.1.1, a0.2.1.1, a0.2.2.1))) + (F186 (F225_3 a1.2.1 (a0.1.2.1, a0.2.1.2.1, a0.2.2.2.1))))) + (F186 (F225_3 a1.2.2 (a0.1.2.2, a0.2.1.2.2, a0.2.2.2.2))))) := by simp only [F187]
  rw [e]
  refine con_of (n := 9) Tryz.func187 rfl (ent Tryz.func187 (by kernel_rfl) rfl) (by show 2 ≤ Tryz.f187.ntmps; decide) (by kernel_rfl) trivial (fun cx hcx => ?_)
  exact ret_of (T := T0) hT hm (f := 5000) (orc := [.call [2] (iv (F225_3 a1.1 (a0.1.1, a0.2.1.1, a0.2.2.1))) [], .call [] (iv (F186 (F225_3 a1.1 (a0.1.1, a0.2.1.1, a0.2.2.1)))) [], .call [3] (iv (F225_3 a1.2.1 (a0.1.2.1, a0.2.1.2.1, a0.2.2.2.1))) [], .call [] (iv (F186 (F225_3 a1.2.1 (a0.1.2.1, a0.2.1.2.1, a0.2.2.2.1)))) [], .call [4] (iv (F225_3 a1.2.2 (a0.1.2.2, a0.2.1.2.2, a0.2.2.2.2))) [], .call [] (iv (F186 (F225_3 a1.2.2 (a0.1.2.2, a0.2.1.2.2, a0.2.2.2.2)))) []]) [] [] [] hcx
    (obs := [.call 225 [(iv a1.1), (.s 0 0 3 1)] [(.live false false [(iv a0.1.1), (iv a0.2.1.1), (iv a0.2.2.1)])] (iv (F225_3 a1.1 (a0.1.1, a0.2.1.1, a0.2.2.1))) [], .call 186 [(iv (F225_3 a1.1 (a0.1.1, a0.2.1.1, a0.2.2.1)))] [] (iv (F186 (F225_3 a1.1 (a0.1.1, a0.2.1.1, a0.2.2.1)))) [], .call 225 [(iv a1.2.1), (.s 0 0 3 1)] [(.live false false [(iv a0.1.2.1), (iv a0.2.1.2.1), (iv a0.2.2.2.1)])] (iv (F225_3 a1.2.1 (a0.1.2.1, a0.2.1.2.1, a0.2.2.2.1))) [], .call 186 [(iv (F225_3 a1.2.1 (a0.1.2.1, a0.2.1.2.1, a0.2.2.2.1)))] [] (iv (F186 (F225_3 a1.2.1 (a0.1.2.1, a0.2.1.2.1, a0.2.2.2.1)))) [], .call 225 [(iv a1.2.2), (.s 0 0 3 1)] [(.live false false [(iv a0.1.2.2), (iv a0.2.1.2.2), (iv a0.2.2.2.2)])] (iv (F225_3 a1.2.2 (a0.1.2.2, a0.2.1.2.2, a0.2.2.2.2))) [], .call 186 [(iv (F225_3 a1.2.2 (a0.1.2.2, a0.2.1.2.2, a0.2.2.2.2)))] [] (iv (F186 (F225_3 a1.2.2 (a0.1.2.2, a0.2.1.2.2, a0.2.2.2.2)))) []]) (by kernel_rfl) ⟨(C225_3 a1.1 (a0.1.1, a0.2.1.1, a0.2.2.1)), (C186 (F225_3 a1.1 (a0.1.1, a0.2.1.1, a0.2.2.1))), (C225_3 a1.2.1 (a0.1.2.1, a0.2.1.2.1, a0.2.2.2.1)), (C186 (F225_3 a1.2.1 (a0.1.2.1, a0.2.1.2.1, a0.2.2.2.1))), (C225_3 a1.2.2 (a0.1.2.2, a0.2.1.2.2, a0.2.2.2.2)), (C186 (F225_3 a1.2.2 (a0.1.2.2, a0.2.1.2.2, a0.2.2.2.2))), trivial⟩

/-- facet/sound.from -/
def F121 (a0 : Int) (a1 : Int) (a2 : Int) : Bool :=
  (bif (decide ((a1 : Int) ≤ a0)) then
   (decide ((a0 : Int) ≤ a2))
  else
   false)

theorem C121 (a0 : Int) (a1 : Int) (a2 : Int) : Con Tryz.prog 121 [(iv a0), (iv a1), (iv a2)] [] (.v (.bool (F121 a0 a1 a2))) [] := by
  cases h0 : (decide ((a1 : Int) ≤ a0)) with
  | true =>
    have q0 := of_decide_eq_true h0
    have e : (F121 a0 a1 a2) = (decide ((a0 : Int) ≤ a2)) := by simp only [F121, h0, cond_true, cond_false]
    rw [e]
    refine con_of (n := 9) Tryz.func121 rfl (ent Tryz.func121 (by kernel_rfl) rfl) (by show 3 ≤ Tryz.f121.ntmps; decide) (by kernel_rfl) trivial (fun cx hcx => ?_)
    exact ret_of (T := T0) hT hm (f := 5000) (orc := [.d true]) [] [] [] hcx
      (obs := [.eq (decide ((a1 : Int) ≤ a0)) true]) (by kernel_rfl) ⟨h0, trivial⟩
  | false =>
    have q0 := of_decide_eq_false h0
    have e : (F121 a0 a1 a2) = false := by simp only [F121, h0, cond_true, cond_false]
    rw [e]
    refine con_of (n := 9) Tryz.func121 rfl (ent Tryz.func121 (by kernel_rfl) rfl) (by show 3 ≤ Tryz.f121.ntmps; decide) (by kernel_rfl) trivial (fun cx hcx => ?_)
    exact ret_of (T := T0) hT hm (f := 5000) (orc := [.d false]) [] [] [] hcx
      (obs := [.eq (decide ((a1 : Int) ≤ a0)) false]) (by kernel_rfl) ⟨h0, trivial⟩

/-- facet/sound.isPoint -/
def F52 (a0 : Int × Int × Int) : Bool :=
  (bif (F121 a0.1 (-256) 256) then
   (bif (F121 a0.2.1 (-256) 256) then
    (F121 a0.2.2 (-256) 256)
   else
    false)
  else
   false)

noncomputable def oC52_0 (a0 : Int × Int × Int) : Ob := .call 121 [(iv a0.1), (iv (-256)), (iv 256)] [] (.v (.bool (F121 a0.1 (-256) 256))) []
theorem C52 (a0 : Int × Int × Int) : Con Tryz.prog 52 [(.a (k3 a0))] [] (.v (.bool (F52 a0))) [] := by
  cases h0 : (F121 a0.1 (-256) 256) with
  | true =>
    cases h1 : (F121 a0.2.1 (-256) 256) with
    | true =>
      have e : (F52 a0) = (F121 a0.2.2 (-256) 256) := by simp only [F52, h0, h1, cond_true, cond_false]
      rw [e]
      refine con_of (n := 9) Tryz.func52 rfl (ent Tryz.func52 (by kernel_rfl) rfl) (by show 1 ≤ Tryz.f52.ntmps; decide) (by kernel_rfl) trivial (fun cx hcx => ?_)
      exact ret_of (T := T0) hT hm (f := 5000) (orc := [.call [] (.v (.bool (F121 a0.1 (-256) 256))) [], .d true, .call [] (.v (.bool (F121 a0.2.1 (-256) 256))) [], .d true, .call [] (.v (.bool (F121 a0.2.2 (-256) 256))) []]) [] [] [] hcx
        (obs := [(oC52_0 a0), .eq (F121 a0.1 (-256) 256) true, .call 121 [(iv a0.2.1), (iv (-256)), (iv 256)] [] (.v (.bool (F121 a0.2.1 (-256) 256))) [], .eq (F121 a0.2.1 (-256) 256) true, .call 121 [(iv a0.2.2), (iv (-256)), (iv 256)] [] (.v (.bool (F121 a0.2.2 (-256) 256))) []]) (by kernel_rfl) ⟨(C121 a0.1 (-256) 256), h0, (C121 a0.2.1 (-256) 256), h1, (C121 a0.2.2 (-256) 256), trivial⟩
    | false =>
      have e : (F52 a0) = false := by simp only [F52, h0, h1, cond_true, cond_false]
      rw [e]
      refine con_of (n := 9) Tryz.func52 rfl (ent Tryz.func52 (by kernel_rfl) rfl) (by show 1 ≤ Tryz.f52.ntmps; decide) (by kernel_rfl) trivial (fun cx hcx => ?_)
      exact ret_of (T := T0) hT hm (f := 5000) (orc := [.call [] (.v (.bool (F121 a0.1 (-256) 256))) [], .d true, .call [] (.v (.bool (F121 a0.2.1 (-256) 256))) [], .d false]) [] [] [] hcx
        (obs := [(oC52_0 a0), .eq (F121 a0.1 (-256) 256) true, .call 121 [(iv a0.2.1), (iv (-256)), (iv 256)] [] (.v (.bool (F121 a0.2.1 (-256) 256))) [], .eq (F121 a0.2.1 (-256) 256) false]) (by kernel_rfl) ⟨(C121 a0.1 (-256) 256), h0, (C121 a0.2.1 (-256) 256), h1, trivial⟩
  | false =>
    have e : (F52 a0) = false := by simp only [F52, h0, cond_true, cond_false]
    rw [e]
    refine con_of (n := 9) Tryz.func52 rfl (ent Tryz.func52 (by kernel_rfl) rfl) (by show 1 ≤ Tryz.f52.ntmps; decide) (by kernel_rfl) trivial (fun cx hcx => ?_)
    exact ret_of (T := T0) hT hm (f := 5000) (orc := [.call [] (.v (.bool (F121 a0.1 (-256) 256))) [], .d false]) [] [] [] hcx
      (obs := [(oC52_0 a0), .eq (F121 a0.1 (-256) 256) false]) (by kernel_rfl) ⟨(C121 a0.1 (-256) 256), h0, trivial⟩

/-- facet/sound.isSpeed -/
def F53 (a0 : Int) : Bool :=
  (F121 a0 1 16)

theorem C53 (a0 : Int) : Con Tryz.prog 53 [(iv a0)] [] (.v (.bool (F53 a0))) [] := by
  have e : (F53 a0) = (F121 a0 1 16) := by simp only [F53]
  rw [e]
  refine con_of (n := 9) Tryz.func53 rfl (ent Tryz.func53 (by kernel_rfl) rfl) (by show 1 ≤ Tryz.f53.ntmps; decide) (by kernel_rfl) trivial (fun cx hcx => ?_)
  exact ret_of (T := T0) hT hm (f := 5000) (orc := [.call [] (.v (.bool (F121 a0 1 16))) []]) [] [] [] hcx
    (obs := [.call 121 [(iv a0), (iv 1), (iv 16)] [] (.v (.bool (F121 a0 1 16))) []]) (by kernel_rfl) ⟨(C121 a0 1 16), trivial⟩

/-- facet/sound.isTick -/
def F54 (a0 : Int) : Bool :=
  (F121 a0 0 2000)

theorem C54 (a0 : Int) : Con Tryz.prog 54 [(iv a0)] [] (.v (.bool (F54 a0))) [] := by
  have e : (F54 a0) = (F121 a0 0 2000) := by simp only [F54]
  rw [e]
  refine con_of (n := 9) Tryz.func54 rfl (ent Tryz.func54 (by kernel_rfl) rfl) (by show 1 ≤ Tryz.f54.ntmps; decide) (by kernel_rfl) trivial (fun cx hcx => ?_)
  exact ret_of (T := T0) hT hm (f := 5000) (orc := [.call [] (.v (.bool (F121 a0 0 2000))) []]) [] [] [] hcx
    (obs := [.call 121 [(iv a0), (iv 0), (iv 2000)] [] (.v (.bool (F121 a0 0 2000))) []]) (by kernel_rfl) ⟨(C121 a0 0 2000), trivial⟩

/-- facet/sound.isDepth -/
def F55 (a0 : Int) : Bool :=
  (F121 a0 0 3)

theorem C55 (a0 : Int) : Con Tryz.prog 55 [(iv a0)] [] (.v (.bool (F55 a0))) [] := by
  have e : (F55 a0) = (F121 a0 0 3) := by simp only [F55]
  rw [e]
  refine con_of (n := 9) Tryz.func55 rfl (ent Tryz.func55 (by kernel_rfl) rfl) (by show 1 ≤ Tryz.f55.ntmps; decide) (by kernel_rfl) trivial (fun cx hcx => ?_)
  exact ret_of (T := T0) hT hm (f := 5000) (orc := [.call [] (.v (.bool (F121 a0 0 3))) []]) [] [] [] hcx
    (obs := [.call 121 [(iv a0), (iv 0), (iv 3)] [] (.v (.bool (F121 a0 0 3))) []]) (by kernel_rfl) ⟨(C121 a0 0 3), trivial⟩

/-- facet/sound.ValidatePulses at (1,) -/
def F126_1 (a0 : ((Int × Int × Int) × (Int × Int × Int) × Int × Int × Int) × Int × Int) : Int :=
  (bif (((F194 a0.1) : Int) != 0) then
   (F194 a0.1)
  else
   (bif (!(F121 a0.2.1 0 1000)) then
    1
   else
    (bif (!(F121 a0.2.2 (-100) 100)) then
     1
    else
     0)))

noncomputable def oC126_1_0 (a0 : ((Int × Int × Int) × (Int × Int × Int) × Int × Int × Int) × Int × Int) : Ob := .call 121 [(iv a0.2.1), (iv 0), (iv 1000)] [] (.v (.bool (F121 a0.2.1 0 1000))) []
theorem C126_1 (a0 : ((Int × Int × Int) × (Int × Int × Int) × Int × Int × Int) × Int × Int) : Con Tryz.prog 126 [(.s 0 0 1 11)] [(.live false false [(iv a0.1.1.1), (iv a0.1.1.2.1), (iv a0.1.1.2.2), (iv a0.1.2.1.1), (iv a0.1.2.1.2.1), (iv a0.1.2.1.2.2), (iv a0.1.2.2.1), (iv a0.1.2.2.2.1), (iv a0.1.2.2.2.2), (iv a0.2.1), (iv a0.2.2)])] (iv (F126_1 a0)) [] := by
  cases h0 : (((F194 a0.1) : Int) != 0) with
  | true =>
    have q0 := bne_iff_ne.1 h0
    have e : (F126_1 a0) = (F194 a0.1) := by simp only [F126_1, h0, cond_true, cond_false]
    rw [e]
    refine con_of (n := 9) Tryz.func126 rfl (ent Tryz.func126 (by kernel_rfl) rfl) (by show 1 ≤ Tryz.f126.ntmps; decide) (by kernel_rfl) ⟨rfl, trivial⟩ (fun cx hcx => ?_)
    exact ret_of (T := T0) hT hm (f := 5000) (orc := [.d false, .un 200, .d true, .call [] (iv (F194 a0.1)) [], .d true]) [] [] [] hcx
      (obs := [.eq false false, .eq true true, .pr (0 ≤ (0 : Int) ∧ (0 : Int) < ((1 : Nat) : Int)), .call 194 [(.a (k9 a0.1))] [] (iv (F194 a0.1)) [], .eq (((F194 a0.1) : Int) != 0) true]) (by kernel_rfl) ⟨rfl, rfl, (show 0 ≤ (0 : Int) ∧ (0 : Int) < ((1 : Nat) : Int) from by decide), (C194 a0.1), h0, trivial⟩
  | false =>
    cases h1 : (!(F121 a0.2.1 0 1000)) with
    | true =>
      have q0 := bne_eq_false_iff_eq.1 h0
      have e : (F126_1 a0) = 1 := by simp only [F126_1, h0, h1, cond_true, cond_false]
      rw [e]
      refine con_of (n := 9) Tryz.func126 rfl (ent Tryz.func126 (by kernel_rfl) rfl) (by show 1 ≤ Tryz.f126.ntmps; decide) (by kernel_rfl) ⟨rfl, trivial⟩ (fun cx hcx => ?_)
      exact ret_of (T := T0) hT hm (f := 5000) (orc := [.d false, .un 200, .d true, .call [] (iv (F194 a0.1)) [], .d false, .call [] (.v (.bool (F121 a0.2.1 0 1000))) [], .d true]) [] [] [] hcx
        (obs := [.eq false false, .eq true true, .pr (0 ≤ (0 : Int) ∧ (0 : Int) < ((1 : Nat) : Int)), .call 194 [(.a (k9 a0.1))] [] (iv (F194 a0.1)) [], .eq (((F194 a0.1) : Int) != 0) false, (oC126_1_0 a0), .eq (!(F121 a0.2.1 0 1000)) true]) (by kernel_rfl) ⟨rfl, rfl, (show 0 ≤ (0 : Int) ∧ (0 : Int) < ((1 : Nat) : Int) from by decide), (C194 a0.1), h0, (C121 a0.2.1 0 1000), h1, trivial⟩
    | false =>
      cases h2 : (!(F121 a0.2.2 (-100) 100)) with
      | true =>
        have q0 := bne_eq_false_iff_eq.1 h0
        have e : (F126_1 a0) = 1 := by simp only [F126_1, h0, h1, h2, cond_true, cond_false]
        rw [e]
        refine con_of (n := 9) Tryz.func126 rfl (ent Tryz.func126 (by kernel_rfl) rfl) (by show 1 ≤ Tryz.f126.ntmps; decide) (by kernel_rfl) ⟨rfl, trivial⟩ (fun cx hcx => ?_)
        exact ret_of (T := T0) hT hm (f := 5000) (orc := [.d false, .un 200, .d true, .call [] (iv (F194 a0.1)) [], .d false, .call [] (.v (.bool (F121 a0.2.1 0 1000))) [], .d false, .call [] (.v (.bool (F121 a0.2.2 (-100) 100))) [], .d true]) [] [] [] hcx
          (obs := [.eq false false, .eq true true, .pr (0 ≤ (0 : Int) ∧ (0 : Int) < ((1 : Nat) : Int)), .call 194 [(.a (k9 a0.1))] [] (iv (F194 a0.1)) [], .eq (((F194 a0.1) : Int) != 0) false, (oC126_1_0 a0), .eq (!(F121 a0.2.1 0 1000)) false, .call 121 [(iv a0.2.2), (iv (-100)), (iv 100)] [] (.v (.bool (F121 a0.2.2 (-100) 100))) [], .eq (!(F121 a0.2.2 (-100) 100)) true]) (by kernel_rfl) ⟨rfl, rfl, (show 0 ≤ (0 : Int) ∧ (0 : Int) < ((1 : Nat) : Int) from by decide), (C194 a0.1), h0, (C121 a0.2.1 0 1000), h1, (C121 a0.2.2 (-100) 100), h2, trivial⟩
      | false =>
        have q0 := bne_eq_false_iff_eq.1 h0
        have e : (F126_1 a0) = 0 := by simp only [F126_1, h0, h1, h2, cond_true, cond_false]
        rw [e]
        refine con_of (n := 9) Tryz.func126 rfl (ent Tryz.func126 (by kernel_rfl) rfl) (by show 1 ≤ Tryz.f126.ntmps; decide) (by kernel_rfl) ⟨rfl, trivial⟩ (fun cx hcx => ?_)
        exact ret_of (T := T0) hT hm (f := 5000) (orc := [.d false, .un 200, .d true, .call [] (iv (F194 a0.1)) [], .d false, .call [] (.v (.bool (F121 a0.2.1 0 1000))) [], .d false, .call [] (.v (.bool (F121 a0.2.2 (-100) 100))) [], .d false, .un 0, .d false]) [] [] [] hcx
          (obs := [.eq false false, .eq true true, .pr (0 ≤ (0 : Int) ∧ (0 : Int) < ((1 : Nat) : Int)), .call 194 [(.a (k9 a0.1))] [] (iv (F194 a0.1)) [], .eq (((F194 a0.1) : Int) != 0) false, (oC126_1_0 a0), .eq (!(F121 a0.2.1 0 1000)) false, .call 121 [(iv a0.2.2), (iv (-100)), (iv 100)] [] (.v (.bool (F121 a0.2.2 (-100) 100))) [], .eq (!(F121 a0.2.2 (-100) 100)) false, .eq false false]) (by kernel_rfl) ⟨rfl, rfl, (show 0 ≤ (0 : Int) ∧ (0 : Int) < ((1 : Nat) : Int) from by decide), (C194 a0.1), h0, (C121 a0.2.1 0 1000), h1, (C121 a0.2.2 (-100) 100), h2, rfl, trivial⟩

/-- facet/sound.check at (1,) -/
def F60_1 (a0 : ((Int × Int × Int) × (Int × Int × Int) × Int × Int × Int) × Int × Int) (a1 : Bool) : Int :=
  (bif (((F126_1 a0) : Int) != 0) then
   (F126_1 a0)
  else
   (bif (!a1) then
    1
   else
    0))

noncomputable def oC60_1_0 (a0 : ((Int × Int × Int) × (Int × Int × Int) × Int × Int × Int) × Int × Int) : Ob := .call 126 [(.s 0 0 1 11)] [(.live false false [(iv a0.1.1.1), (iv a0.1.1.2.1), (iv a0.1.1.2.2), (iv a0.1.2.1.1), (iv a0.1.2.1.2.1), (iv a0.1.2.1.2.2), (iv a0.1.2.2.1), (iv a0.1.2.2.2.1), (iv a0.1.2.2.2.2), (iv a0.2.1), (iv a0.2.2)])] (iv (F126_1 a0)) []
theorem C60_1 (a0 : ((Int × Int × Int) × (Int × Int × Int) × Int × Int × Int) × Int × Int) (a1 : Bool) : Con Tryz.prog 60 [(.s 0 0 1 11), (.v (.bool a1))] [(.live false false [(iv a0.1.1.1), (iv a0.1.1.2.1), (iv a0.1.1.2.2), (iv a0.1.2.1.1), (iv a0.1.2.1.2.1), (iv a0.1.2.1.2.2), (iv a0.1.2.2.1), (iv a0.1.2.2.2.1), (iv a0.1.2.2.2.2), (iv a0.2.1), (iv a0.2.2)])] (iv (F60_1 a0 a1)) [] := by
  cases h0 : (((F126_1 a0) : Int) != 0) with
  | true =>
    have q0 := bne_iff_ne.1 h0
    have e : (F60_1 a0 a1) = (F126_1 a0) := by simp only [F60_1, h0, cond_true, cond_false]
    rw [e]
    refine con_of (n := 9) Tryz.func60 rfl (ent Tryz.func60 (by kernel_rfl) rfl) (by show 2 ≤ Tryz.f60.ntmps; decide) (by kernel_rfl) ⟨rfl, trivial⟩ (fun cx hcx => ?_)
    exact ret_of (T := T0) hT hm (f := 5000) (orc := [.call [0] (iv (F126_1 a0)) [], .d true]) [] [] [] hcx
      (obs := [(oC60_1_0 a0), .eq (((F126_1 a0) : Int) != 0) true]) (by kernel_rfl) ⟨(C126_1 a0), h0, trivial⟩
  | false =>
    cases h1 : (!a1) with
    | true =>
      have q0 := bne_eq_false_iff_eq.1 h0
      have e : (F60_1 a0 a1) = 1 := by simp only [F60_1, h0, h1, cond_true, cond_false]
      rw [e]
      refine con_of (n := 9) Tryz.func60 rfl (ent Tryz.func60 (by kernel_rfl) rfl) (by show 2 ≤ Tryz.f60.ntmps; decide) (by kernel_rfl) ⟨rfl, trivial⟩ (fun cx hcx => ?_)
      exact ret_of (T := T0) hT hm (f := 5000) (orc := [.call [0] (iv (F126_1 a0)) [], .d false, .d true]) [] [] [] hcx
        (obs := [(oC60_1_0 a0), .eq (((F126_1 a0) : Int) != 0) false, .eq (!a1) true]) (by kernel_rfl) ⟨(C126_1 a0), h0, h1, trivial⟩
    | false =>
      have q0 := bne_eq_false_iff_eq.1 h0
      have e : (F60_1 a0 a1) = 0 := by simp only [F60_1, h0, h1, cond_true, cond_false]
      rw [e]
      refine con_of (n := 9) Tryz.func60 rfl (ent Tryz.func60 (by kernel_rfl) rfl) (by show 2 ≤ Tryz.f60.ntmps; decide) (by kernel_rfl) ⟨rfl, trivial⟩ (fun cx hcx => ?_)
      exact ret_of (T := T0) hT hm (f := 5000) (orc := [.call [0] (iv (F126_1 a0)) [], .d false, .d false]) [] [] [] hcx
        (obs := [(oC60_1_0 a0), .eq (((F126_1 a0) : Int) != 0) false, .eq (!a1) false]) (by kernel_rfl) ⟨(C126_1 a0), h0, h1, trivial⟩

/-- facet/facetref04.size -/
def F165 (a0 : Int) : Int :=
  (if (a0 : Int) < (W (0 - a0)) then (W (0 - a0)) else a0)

theorem C165 (a0 : Int) : Con Tryz.prog 165 [(iv a0)] [] (iv (F165 a0)) [] := by
  have e : (F165 a0) = (if (a0 : Int) < (W (0 - a0)) then (W (0 - a0)) else a0) := by simp only [F165]
  rw [e]
  refine con_of (n := 9) Tryz.func165 rfl (ent Tryz.func165 (by kernel_rfl) rfl) (by show 1 ≤ Tryz.f165.ntmps; decide) (by kernel_rfl) trivial (fun cx hcx => ?_)
  exact ret_of (T := T0) hT hm (f := 5000) (orc := []) [] [] [] hcx
    (obs := []) (by kernel_rfl) trivial

/-- facet/facetref04.Small -/
def F85 (a0 : Int × Int × Int) (a1 : Int) : Bool :=
  (bif (decide (((F165 a0.1) : Int) ≤ a1)) then
   (bif (decide (((F165 a0.2.1) : Int) ≤ a1)) then
    (bif (decide (((F165 a0.2.2) : Int) ≤ a1)) then
     (bif (decide ((a0.1 : Int) ≥ (W (0 - a1)))) then
      (bif (decide ((a0.2.1 : Int) ≥ (W (0 - a1)))) then
       (decide ((a0.2.2 : Int) ≥ (W (0 - a1))))
      else
       false)
     else
      false)
    else
     false)
   else
    false)
  else
   false)

theorem C85 (a0 : Int × Int × Int) (a1 : Int) : Con Tryz.prog 85 [(.a (k3 a0)), (iv a1)] [] (.v (.bool (F85 a0 a1))) [] := by
  cases h0 : (decide (((F165 a0.1) : Int) ≤ a1)) with
  | true =>
    cases h1 : (decide (((F165 a0.2.1) : Int) ≤ a1)) with
    | true =>
      cases h2 : (decide (((F165 a0.2.2) : Int) ≤ a1)) with
      | true =>
        cases h3 : (decide ((a0.1 : Int) ≥ (W (0 - a1)))) with
        | true =>
          cases h4 : (decide ((a0.2.1 : Int) ≥ (W (0 - a1)))) with
          | true =>
            have q0 := of_decide_eq_true h0
            have q1 := of_decide_eq_true h1
            have q2 := of_decide_eq_true h2
            have q3 := of_decide_eq_true h3
            have q4 := of_decide_eq_true h4
            have e : (F85 a0 a1) = (decide ((a0.2.2 : Int) ≥ (W (0 - a1)))) := by simp only [F85, h0, h1, h2, h3, h4, cond_true, cond_false]
            rw [e]
            refine con_of (n := 9) Tryz.func85 rfl (ent Tryz.func85 (by kernel_rfl) rfl) (by show 2 ≤ Tryz.f85.ntmps; decide) (by kernel_rfl) trivial (fun cx hcx => ?_)
            exact ret_of (T := T0) hT hm (f := 5000) (orc := [.call [] (iv (F165 a0.1)) [], .d true, .call [] (iv (F165 a0.2.1)) [], .d true, .call [] (iv (F165 a0.2.2)) [], .d true, .d true, .d true]) [] [] [] hcx
              (obs := [.call 165 [(iv a0.1)] [] (iv (F165 a0.1)) [], .eq (decide (((F165 a0.1) : Int) ≤ a1)) true, .call 165 [(iv a0.2.1)] [] (iv (F165 a0.2.1)) [], .eq (decide (((F165 a0.2.1) : Int) ≤ a1)) true, .call 165 [(iv a0.2.2)] [] (iv (F165 a0.2.2)) [], .eq (decide (((F165 a0.2.2) : Int) ≤ a1)) true, .eq (decide ((a0.1 : Int) ≥ (W (0 - a1)))) true, .eq (decide ((a0.2.1 : Int) ≥ (W (0 - a1)))) true]) (by kernel_rfl) ⟨(C165 a0.1), h0, (C165 a0.2.1), h1, (C165 a0.2.2), h2, h3, h4, trivial⟩
          | false =>
            have q0 := of_decide_eq_true h0
            have q1 := of_decide_eq_true h1
            have q2 := of_decide_eq_true h2
            have q3 := of_decide_eq_true h3
            have q4 := of_decide_eq_false h4
            have e : (F85 a0 a1) = false := by simp only [F85, h0, h1, h2, h3, h4, cond_true, cond_false]
            rw [e]
            refine con_of (n := 9) Tryz.func85 rfl (ent Tryz.func85 (by kernel_rfl) rfl) (by show 2 ≤ Tryz.f85.ntmps; decide) (by kernel_rfl) trivial (fun cx hcx => ?_)
            exact ret_of (T := T0) hT hm (f := 5000) (orc := [.call [] (iv (F165 a0.1)) [], .d true, .call [] (iv (F165 a0.2.1)) [], .d true, .call [] (iv (F165 a0.2.2)) [], .d true, .d true, .d false]) [] [] [] hcx
              (obs := [.call 165 [(iv a0.1)] [] (iv (F165 a0.1)) [], .eq (decide (((F165 a0.1) : Int) ≤ a1)) true, .call 165 [(iv a0.2.1)] [] (iv (F165 a0.2.1)) [], .eq (decide (((F165 a0.2.1) : Int) ≤ a1)) true, .call 165 [(iv a0.2.2)] [] (iv (F165 a0.2.2)) [], .eq (decide (((F165 a0.2.2) : Int) ≤ a1)) true, .eq (decide ((a0.1 : Int) ≥ (W (0 - a1)))) true, .eq (decide ((a0.2.1 : Int) ≥ (W (0 - a1)))) false]) (by kernel_rfl) ⟨(C165 a0.1), h0, (C165 a0.2.1), h1, (C165 a0.2.2), h2, h3, h4, trivial⟩
        | false =>
          have q0 := of_decide_eq_true h0
          have q1 := of_decide_eq_true h1
          have q2 := of_decide_eq_true h2
          have q3 := of_decide_eq_false h3
          have e : (F85 a0 a1) = false := by simp only [F85, h0, h1, h2, h3, cond_true, cond_false]
          rw [e]
          refine con_of (n := 9) Tryz.func85 rfl (ent Tryz.func85 (by kernel_rfl) rfl) (by show 2 ≤ Tryz.f85.ntmps; decide) (by kernel_rfl) trivial (fun cx hcx => ?_)
          exact ret_of (T := T0) hT hm (f := 5000) (orc := [.call [] (iv (F165 a0.1)) [], .d true, .call [] (iv (F165 a0.2.1)) [], .d true, .call [] (iv (F165 a0.2.2)) [], .d true, .d false]) [] [] [] hcx
            (obs := [.call 165 [(iv a0.1)] [] (iv (F165 a0.1)) [], .eq (decide (((F165 a0.1) : Int) ≤ a1)) true, .call 165 [(iv a0.2.1)] [] (iv (F165 a0.2.1)) [], .eq (decide (((F165 a0.2.1) : Int) ≤ a1)) true, .call 165 [(iv a0.2.2)] [] (iv (F165 a0.2.2)) [], .eq (decide (((F165 a0.2.2) : Int) ≤ a1)) true, .eq (decide ((a0.1 : Int) ≥ (W (0 - a1)))) false]) (by kernel_rfl) ⟨(C165 a0.1), h0, (C165 a0.2.1), h1, (C165 a0.2.2), h2, h3, trivial⟩
      | false =>
        have q0 := of_decide_eq_true h0
        have q1 := of_decide_eq_true h1
        have q2 := of_decide_eq_false h2
        have e : (F85 a0 a1) = false := by simp only [F85, h0, h1, h2, cond_true, cond_false]
        rw [e]
        refine con_of (n := 9) Tryz.func85 rfl (ent Tryz.func85 (by kernel_rfl) rfl) (by show 2 ≤ Tryz.f85.ntmps; decide) (by kernel_rfl) trivial (fun cx hcx => ?_)
        exact ret_of (T := T0) hT hm (f := 5000) (orc := [.call [] (iv (F165 a0.1)) [], .d true, .call [] (iv (F165 a0.2.1)) [], .d true, .call [] (iv (F165 a0.2.2)) [], .d false]) [] [] [] hcx
          (obs := [.call 165 [(iv a0.1)] [] (iv (F165 a0.1)) [], .eq (decide (((F165 a0.1) : Int) ≤ a1)) true, .call 165 [(iv a0.2.1)] [] (iv (F165 a0.2.1)) [], .eq (decide (((F165 a0.2.1) : Int) ≤ a1)) true, .call 165 [(iv a0.2.2)] [] (iv (F165 a0.2.2)) [], .eq (decide (((F165 a0.2.2) : Int) ≤ a1)) false]) (by kernel_rfl) ⟨(C165 a0.1), h0, (C165 a0.2.1), h1, (C165 a0.2.2), h2, trivial⟩
    | false =>
      have q0 := of_decide_eq_true h0
      have q1 := of_decide_eq_false h1
      have e : (F85 a0 a1) = false := by simp only [F85, h0, h1, cond_true, cond_false]
      rw [e]
      refine con_of (n := 9) Tryz.func85 rfl (ent Tryz.func85 (by kernel_rfl) rfl) (by show 2 ≤ Tryz.f85.ntmps; decide) (by kernel_rfl) trivial (fun cx hcx => ?_)
      exact ret_of (T := T0) hT hm (f := 5000) (orc := [.call [] (iv (F165 a0.1)) [], .d true, .call [] (iv (F165 a0.2.1)) [], .d false]) [] [] [] hcx
        (obs := [.call 165 [(iv a0.1)] [] (iv (F165 a0.1)) [], .eq (decide (((F165 a0.1) : Int) ≤ a1)) true, .call 165 [(iv a0.2.1)] [] (iv (F165 a0.2.1)) [], .eq (decide (((F165 a0.2.1) : Int) ≤ a1)) false]) (by kernel_rfl) ⟨(C165 a0.1), h0, (C165 a0.2.1), h1, trivial⟩
  | false =>
    have q0 := of_decide_eq_false h0
    have e : (F85 a0 a1) = false := by simp only [F85, h0, cond_true, cond_false]
    rw [e]
    refine con_of (n := 9) Tryz.func85 rfl (ent Tryz.func85 (by kernel_rfl) rfl) (by show 2 ≤ Tryz.f85.ntmps; decide) (by kernel_rfl) trivial (fun cx hcx => ?_)
    exact ret_of (T := T0) hT hm (f := 5000) (orc := [.call [] (iv (F165 a0.1)) [], .d false]) [] [] [] hcx
      (obs := [.call 165 [(iv a0.1)] [] (iv (F165 a0.1)) [], .eq (decide (((F165 a0.1) : Int) ≤ a1)) false]) (by kernel_rfl) ⟨(C165 a0.1), h0, trivial⟩

/-- facet/facetref08.within -/
def F124 (a0 : Int) (a1 : Int) (a2 : Int) : Bool :=
  (bif (decide ((a0 : Int) ≥ a1)) then
   (decide ((a0 : Int) ≤ a2))
  else
   false)

theorem C124 (a0 : Int) (a1 : Int) (a2 : Int) : Con Tryz.prog 124 [(iv a0), (iv a1), (iv a2)] [] (.v (.bool (F124 a0 a1 a2))) [] := by
  cases h0 : (decide ((a0 : Int) ≥ a1)) with
  | true =>
    have q0 := of_decide_eq_true h0
    have e : (F124 a0 a1 a2) = (decide ((a0 : Int) ≤ a2)) := by simp only [F124, h0, cond_true, cond_false]
    rw [e]
    refine con_of (n := 9) Tryz.func124 rfl (ent Tryz.func124 (by kernel_rfl) rfl) (by show 3 ≤ Tryz.f124.ntmps; decide) (by kernel_rfl) trivial (fun cx hcx => ?_)
    exact ret_of (T := T0) hT hm (f := 5000) (orc := [.d true]) [] [] [] hcx
      (obs := [.eq (decide ((a0 : Int) ≥ a1)) true]) (by kernel_rfl) ⟨h0, trivial⟩
  | false =>
    have q0 := of_decide_eq_false h0
    have e : (F124 a0 a1 a2) = false := by simp only [F124, h0, cond_true, cond_false]
    rw [e]
    refine con_of (n := 9) Tryz.func124 rfl (ent Tryz.func124 (by kernel_rfl) rfl) (by show 3 ≤ Tryz.f124.ntmps; decide) (by kernel_rfl) trivial (fun cx hcx => ?_)
    exact ret_of (T := T0) hT hm (f := 5000) (orc := [.d false]) [] [] [] hcx
      (obs := [.eq (decide ((a0 : Int) ≥ a1)) false]) (by kernel_rfl) ⟨h0, trivial⟩

/-- facet/facetref08.asked -/
def F58 (a0 : Int × Int × Int) (a1 : Int) (a2 : Int) (a3 : Int) : Int :=
  (bif (!(F85 a0 256)) then
   1
  else
   (bif (!(F124 a1 1 16)) then
    1
   else
    (bif (!(F124 a2 0 2000)) then
     1
    else
     (bif (!(F124 a3 0 3)) then
      1
     else
      0))))

noncomputable def oC58_0 (a0 : Int × Int × Int) : Ob := .call 85 [(.a (k3 a0)), (iv 256)] [] (.v (.bool (F85 a0 256))) []
noncomputable def oC58_1 (a1 : Int) : Ob := .call 124 [(iv a1), (iv 1), (iv 16)] [] (.v (.bool (F124 a1 1 16))) []
theorem C58 (a0 : Int × Int × Int) (a1 : Int) (a2 : Int) (a3 : Int) : Con Tryz.prog 58 [(.a (k3 a0)), (iv a1), (iv a2), (iv a3)] [] (iv (F58 a0 a1 a2 a3)) [] := by
  cases h0 : (!(F85 a0 256)) with
  | true =>
    have e : (F58 a0 a1 a2 a3) = 1 := by simp only [F58, h0, cond_true, cond_false]
    rw [e]
    refine con_of (n := 9) Tryz.func58 rfl (ent Tryz.func58 (by kernel_rfl) rfl) (by show 4 ≤ Tryz.f58.ntmps; decide) (by kernel_rfl) trivial (fun cx hcx => ?_)
    exact ret_of (T := T0) hT hm (f := 5000) (orc := [.call [] (.v (.bool (F85 a0 256))) [], .d true]) [] [] [] hcx
      (obs := [(oC58_0 a0), .eq (!(F85 a0 256)) true]) (by kernel_rfl) ⟨(C85 a0 256), h0, trivial⟩
  | false =>
    cases h1 : (!(F124 a1 1 16)) with
    | true =>
      have e : (F58 a0 a1 a2 a3) = 1 := by simp only [F58, h0, h1, cond_true, cond_false]
      rw [e]
      refine con_of (n := 9) Tryz.func58 rfl (ent Tryz.func58 (by kernel_rfl) rfl) (by show 4 ≤ Tryz.f58.ntmps; decide) (by kernel_rfl) trivial (fun cx hcx => ?_)
      exact ret_of (T := T0) hT hm (f := 5000) (orc := [.call [] (.v (.bool (F85 a0 256))) [], .d false, .call [] (.v (.bool (F124 a1 1 16))) [], .d true]) [] [] [] hcx
        (obs := [(oC58_0 a0), .eq (!(F85 a0 256)) false, (oC58_1 a1), .eq (!(F124 a1 1 16)) true]) (by kernel_rfl) ⟨(C85 a0 256), h0, (C124 a1 1 16), h1, trivial⟩
    | false =>
      cases h2 : (!(F124 a2 0 2000)) with
      | true =>
        have e : (F58 a0 a1 a2 a3) = 1 := by simp only [F58, h0, h1, h2, cond_true, cond_false]
        rw [e]
        refine con_of (n := 9) Tryz.func58 rfl (ent Tryz.func58 (by kernel_rfl) rfl) (by show 4 ≤ Tryz.f58.ntmps; decide) (by kernel_rfl) trivial (fun cx hcx => ?_)
        exact ret_of (T := T0) hT hm (f := 5000) (orc := [.call [] (.v (.bool (F85 a0 256))) [], .d false, .call [] (.v (.bool (F124 a1 1 16))) [], .d false, .call [] (.v (.bool (F124 a2 0 2000))) [], .d true]) [] [] [] hcx
          (obs := [(oC58_0 a0), .eq (!(F85 a0 256)) false, (oC58_1 a1), .eq (!(F124 a1 1 16)) false, .call 124 [(iv a2), (iv 0), (iv 2000)] [] (.v (.bool (F124 a2 0 2000))) [], .eq (!(F124 a2 0 2000)) true]) (by kernel_rfl) ⟨(C85 a0 256), h0, (C124 a1 1 16), h1, (C124 a2 0 2000), h2, trivial⟩
      | false =>
        cases h3 : (!(F124 a3 0 3)) with
        | true =>
          have e : (F58 a0 a1 a2 a3) = 1 := by simp only [F58, h0, h1, h2, h3, cond_true, cond_false]
          rw [e]
          refine con_of (n := 9) Tryz.func58 rfl (ent Tryz.func58 (by kernel_rfl) rfl) (by show 4 ≤ Tryz.f58.ntmps; decide) (by kernel_rfl) trivial (fun cx hcx => ?_)
          exact ret_of (T := T0) hT hm (f := 5000) (orc := [.call [] (.v (.bool (F85 a0 256))) [], .d false, .call [] (.v (.bool (F124 a1 1 16))) [], .d false, .call [] (.v (.bool (F124 a2 0 2000))) [], .d false, .call [] (.v (.bool (F124 a3 0 3))) [], .d true]) [] [] [] hcx
            (obs := [(oC58_0 a0), .eq (!(F85 a0 256)) false, (oC58_1 a1), .eq (!(F124 a1 1 16)) false, .call 124 [(iv a2), (iv 0), (iv 2000)] [] (.v (.bool (F124 a2 0 2000))) [], .eq (!(F124 a2 0 2000)) false, .call 124 [(iv a3), (iv 0), (iv 3)] [] (.v (.bool (F124 a3 0 3))) [], .eq (!(F124 a3 0 3)) true]) (by kernel_rfl) ⟨(C85 a0 256), h0, (C124 a1 1 16), h1, (C124 a2 0 2000), h2, (C124 a3 0 3), h3, trivial⟩
        | false =>
          have e : (F58 a0 a1 a2 a3) = 0 := by simp only [F58, h0, h1, h2, h3, cond_true, cond_false]
          rw [e]
          refine con_of (n := 9) Tryz.func58 rfl (ent Tryz.func58 (by kernel_rfl) rfl) (by show 4 ≤ Tryz.f58.ntmps; decide) (by kernel_rfl) trivial (fun cx hcx => ?_)
          exact ret_of (T := T0) hT hm (f := 5000) (orc := [.call [] (.v (.bool (F85 a0 256))) [], .d false, .call [] (.v (.bool (F124 a1 1 16))) [], .d false, .call [] (.v (.bool (F124 a2 0 2000))) [], .d false, .call [] (.v (.bool (F124 a3 0 3))) [], .d false]) [] [] [] hcx
            (obs := [(oC58_0 a0), .eq (!(F85 a0 256)) false, (oC58_1 a1), .eq (!(F124 a1 1 16)) false, .call 124 [(iv a2), (iv 0), (iv 2000)] [] (.v (.bool (F124 a2 0 2000))) [], .eq (!(F124 a2 0 2000)) false, .call 124 [(iv a3), (iv 0), (iv 3)] [] (.v (.bool (F124 a3 0 3))) [], .eq (!(F124 a3 0 3)) false]) (by kernel_rfl) ⟨(C85 a0 256), h0, (C124 a1 1 16), h1, (C124 a2 0 2000), h2, (C124 a3 0 3), h3, trivial⟩

/-- facet/facetref08.one -/
def F127 (a0 : ((Int × Int × Int) × (Int × Int × Int) × Int × Int × Int) × Int × Int) : Int :=
  (bif (((F195 a0.1) : Int) != 0) then
   (F195 a0.1)
  else
   (bif (!(F124 a0.2.1 0 1000)) then
    1
   else
    (bif (!(F124 a0.2.2 (-100) 100)) then
     1
    else
     0)))

noncomputable def oC127_0 (a0 : ((Int × Int × Int) × (Int × Int × Int) × Int × Int × Int) × Int × Int) : Ob := .call 124 [(iv a0.2.1), (iv 0), (iv 1000)] [] (.v (.bool (F124 a0.2.1 0 1000))) []
theorem C127 (a0 : ((Int × Int × Int) × (Int × Int × Int) × Int × Int × Int) × Int × Int) : Con Tryz.prog 127 [(.a [(iv a0.1.1.1), (iv a0.1.1.2.1), (iv a0.1.1.2.2), (iv a0.1.2.1.1), (iv a0.1.2.1.2.1), (iv a0.1.2.1.2.2), (iv a0.1.2.2.1), (iv a0.1.2.2.2.1), (iv a0.1.2.2.2.2), (iv a0.2.1), (iv a0.2.2)])] [] (iv (F127 a0)) [] := by
  cases h0 : (((F195 a0.1) : Int) != 0) with
  | true =>
    have q0 := bne_iff_ne.1 h0
    have e : (F127 a0) = (F195 a0.1) := by simp only [F127, h0, cond_true, cond_false]
    rw [e]
    refine con_of (n := 9) Tryz.func127 rfl (ent Tryz.func127 (by kernel_rfl) rfl) (by show 1 ≤ Tryz.f127.ntmps; decide) (by kernel_rfl) trivial (fun cx hcx => ?_)
    exact ret_of (T := T0) hT hm (f := 5000) (orc := [.call [] (iv (F195 a0.1)) [], .d true]) [] [] [] hcx
      (obs := [.call 195 [(.a (k9 a0.1))] [] (iv (F195 a0.1)) [], .eq (((F195 a0.1) : Int) != 0) true]) (by kernel_rfl) ⟨(C195 a0.1), h0, trivial⟩
  | false =>
    cases h1 : (!(F124 a0.2.1 0 1000)) with
    | true =>
      have q0 := bne_eq_false_iff_eq.1 h0
      have e : (F127 a0) = 1 := by simp only [F127, h0, h1, cond_true, cond_false]
      rw [e]
      refine con_of (n := 9) Tryz.func127 rfl (ent Tryz.func127 (by kernel_rfl) rfl) (by show 1 ≤ Tryz.f127.ntmps; decide) (by kernel_rfl) trivial (fun cx hcx => ?_)
      exact ret_of (T := T0) hT hm (f := 5000) (orc := [.call [] (iv (F195 a0.1)) [], .d false, .call [] (.v (.bool (F124 a0.2.1 0 1000))) [], .d true]) [] [] [] hcx
        (obs := [.call 195 [(.a (k9 a0.1))] [] (iv (F195 a0.1)) [], .eq (((F195 a0.1) : Int) != 0) false, (oC127_0 a0), .eq (!(F124 a0.2.1 0 1000)) true]) (by kernel_rfl) ⟨(C195 a0.1), h0, (C124 a0.2.1 0 1000), h1, trivial⟩
    | false =>
      cases h2 : (!(F124 a0.2.2 (-100) 100)) with
      | true =>
        have q0 := bne_eq_false_iff_eq.1 h0
        have e : (F127 a0) = 1 := by simp only [F127, h0, h1, h2, cond_true, cond_false]
        rw [e]
        refine con_of (n := 9) Tryz.func127 rfl (ent Tryz.func127 (by kernel_rfl) rfl) (by show 1 ≤ Tryz.f127.ntmps; decide) (by kernel_rfl) trivial (fun cx hcx => ?_)
        exact ret_of (T := T0) hT hm (f := 5000) (orc := [.call [] (iv (F195 a0.1)) [], .d false, .call [] (.v (.bool (F124 a0.2.1 0 1000))) [], .d false, .call [] (.v (.bool (F124 a0.2.2 (-100) 100))) [], .d true]) [] [] [] hcx
          (obs := [.call 195 [(.a (k9 a0.1))] [] (iv (F195 a0.1)) [], .eq (((F195 a0.1) : Int) != 0) false, (oC127_0 a0), .eq (!(F124 a0.2.1 0 1000)) false, .call 124 [(iv a0.2.2), (iv (-100)), (iv 100)] [] (.v (.bool (F124 a0.2.2 (-100) 100))) [], .eq (!(F124 a0.2.2 (-100) 100)) true]) (by kernel_rfl) ⟨(C195 a0.1), h0, (C124 a0.2.1 0 1000), h1, (C124 a0.2.2 (-100) 100), h2, trivial⟩
      | false =>
        have q0 := bne_eq_false_iff_eq.1 h0
        have e : (F127 a0) = 0 := by simp only [F127, h0, h1, h2, cond_true, cond_false]
        rw [e]
        refine con_of (n := 9) Tryz.func127 rfl (ent Tryz.func127 (by kernel_rfl) rfl) (by show 1 ≤ Tryz.f127.ntmps; decide) (by kernel_rfl) trivial (fun cx hcx => ?_)
        exact ret_of (T := T0) hT hm (f := 5000) (orc := [.call [] (iv (F195 a0.1)) [], .d false, .call [] (.v (.bool (F124 a0.2.1 0 1000))) [], .d false, .call [] (.v (.bool (F124 a0.2.2 (-100) 100))) [], .d false]) [] [] [] hcx
          (obs := [.call 195 [(.a (k9 a0.1))] [] (iv (F195 a0.1)) [], .eq (((F195 a0.1) : Int) != 0) false, (oC127_0 a0), .eq (!(F124 a0.2.1 0 1000)) false, .call 124 [(iv a0.2.2), (iv (-100)), (iv 100)] [] (.v (.bool (F124 a0.2.2 (-100) 100))) [], .eq (!(F124 a0.2.2 (-100) 100)) false]) (by kernel_rfl) ⟨(C195 a0.1), h0, (C124 a0.2.1 0 1000), h1, (C124 a0.2.2 (-100) 100), h2, trivial⟩

/-- facet/facetref08.gap -/
def F243 (a0 : Int) (a1 : Int) (a2 : Int) : Int :=
  (if ((if ((W (a1 - a0)) : Int) < (W (a0 - a2)) then (W (a0 - a2)) else (W (a1 - a0))) : Int) < 0 then 0 else (if ((W (a1 - a0)) : Int) < (W (a0 - a2)) then (W (a0 - a2)) else (W (a1 - a0))))

theorem C243 (a0 : Int) (a1 : Int) (a2 : Int) : Con Tryz.prog 243 [(iv a0), (iv a1), (iv a2)] [] (iv (F243 a0 a1 a2)) [] := by
  have e : (F243 a0 a1 a2) = (if ((if ((W (a1 - a0)) : Int) < (W (a0 - a2)) then (W (a0 - a2)) else (W (a1 - a0))) : Int) < 0 then 0 else (if ((W (a1 - a0)) : Int) < (W (a0 - a2)) then (W (a0 - a2)) else (W (a1 - a0)))) := by simp only [F243]
  rw [e]
  refine con_of (n := 9) Tryz.func243 rfl (ent Tryz.func243 (by kernel_rfl) rfl) (by show 3 ≤ Tryz.f243.ntmps; decide) (by kernel_rfl) trivial (fun cx hcx => ?_)
  exact ret_of (T := T0) hT hm (f := 5000) (orc := []) [] [] [] hcx
    (obs := []) (by kernel_rfl) trivial

/-- facet/facetref04.Square -/
def F86 (a0 : Int × Int × Int) : Int :=
  (W ((W ((W (a0.1 * a0.1)) + (W (a0.2.1 * a0.2.1)))) + (W (a0.2.2 * a0.2.2))))

theorem C86 (a0 : Int × Int × Int) : Con Tryz.prog 86 [(.a (k3 a0))] [] (iv (F86 a0)) [] := by
  have e : (F86 a0) = (W ((W ((W (a0.1 * a0.1)) + (W (a0.2.1 * a0.2.1)))) + (W (a0.2.2 * a0.2.2)))) := by simp only [F86]
  rw [e]
  refine con_of (n := 9) Tryz.func86 rfl (ent Tryz.func86 (by kernel_rfl) rfl) (by show 1 ≤ Tryz.f86.ntmps; decide) (by kernel_rfl) trivial (fun cx hcx => ?_)
  exact ret_of (T := T0) hT hm (f := 5000) (orc := []) [] [] [] hcx
    (obs := []) (by kernel_rfl) trivial

/-- facet/facetref08.near -/
def F231 (a0 : (Int × Int × Int) × (Int × Int × Int) × Int × Int × Int) (a1 : Int × Int × Int) : Int :=
  (F86 ((F243 a1.1 (if (a0.2.2.1 : Int) < (if (a0.2.1.1 : Int) < a0.1.1 then a0.2.1.1 else a0.1.1) then a0.2.2.1 else (if (a0.2.1.1 : Int) < a0.1.1 then a0.2.1.1 else a0.1.1)) (if ((if (a0.1.1 : Int) < a0.2.1.1 then a0.2.1.1 else a0.1.1) : Int) < a0.2.2.1 then a0.2.2.1 else (if (a0.1.1 : Int) < a0.2.1.1 then a0.2.1.1 else a0.1.1))), (F243 a1.2.1 (if (a0.2.2.2.1 : Int) < (if (a0.2.1.2.1 : Int) < a0.1.2.1 then a0.2.1.2.1 else a0.1.2.1) then a0.2.2.2.1 else (if (a0.2.1.2.1 : Int) < a0.1.2.1 then a0.2.1.2.1 else a0.1.2.1)) (if ((if (a0.1.2.1 : Int) < a0.2.1.2.1 then a0.2.1.2.1 else a0.1.2.1) : Int) < a0.2.2.2.1 then a0.2.2.2.1 else (if (a0.1.2.1 : Int) < a0.2.1.2.1 then a0.2.1.2.1 else a0.1.2.1))), (F243 a1.2.2 (if (a0.2.2.2.2 : Int) < (if (a0.2.1.2.2 : Int) < a0.1.2.2 then a0.2.1.2.2 else a0.1.2.2) then a0.2.2.2.2 else (if (a0.2.1.2.2 : Int) < a0.1.2.2 then a0.2.1.2.2 else a0.1.2.2)) (if ((if (a0.1.2.2 : Int) < a0.2.1.2.2 then a0.2.1.2.2 else a0.1.2.2) : Int) < a0.2.2.2.2 then a0.2.2.2.2 else (if (a0.1.2.2 : Int) < a0.2.1.2.2 then a0.2.1.2.2 else a0.1.2.2)))))

theorem C231 (a0 : (Int × Int × Int) × (Int × Int × Int) × Int × Int × Int) (a1 : Int × Int × Int) : Con Tryz.prog 231 [(.a (k9 a0)), (.a (k3 a1))] [] (iv (F231 a0 a1)) [] := by
  have e : (F231 a0 a1) = (F86 ((F243 a1.1 (if (a0.2.2.1 : Int) < (if (a0.2.1.1 : Int) < a0.1.1 then a0.2.1.1 else a0.1.1) then a0.2.2.1 else (if (a0.2.1.1 : Int) < a0.1.1 then a0.2.1.1 else a0.1.1)) (if ((if (a0.1.1 : Int) < a0.2.1.1 then a0.2.1.1 else a0.1.1) : Int) < a0.2.2.1 then a0.2.2.1 else (if (a0.1.1 : Int) < a0.2.1.1 then a0.2.1.1 else a0.1.1))), (F243 a1.2.1 (if (a0.2.2.2.1 : Int) < (if (a0.2.1.2.1 : Int) < a0.1.2.1 then a0.2.1.2.1 else a0.1.2.1) then a0.2.2.2.1 else (if (a0.2.1.2.1 : Int) < a0.1.2.1 then a0.2.1.2.1 else a0.1.2.1)) (if ((if (a0.1.2.1 : Int) < a0.2.1.2.1 then a0.2.1.2.1 else a0.1.2.1) : Int) < a0.2.2.2.1 then a0.2.2.2.1 else (if (a0.1.2.1 : Int) < a0.2.1.2.1 then a0.2.1.2.1 else a0.1.2.1))), (F243 a1.2.2 (if (a0.2.2.2.2 : Int) < (if (a0.2.1.2.2 : Int) < a0.1.2.2 then a0.2.1.2.2 else a0.1.2.2) then a0.2.2.2.2 else (if (a0.2.1.2.2 : Int) < a0.1.2.2 then a0.2.1.2.2 else a0.1.2.2)) (if ((if (a0.1.2.2 : Int) < a0.2.1.2.2 then a0.2.1.2.2 else a0.1.2.2) : Int) < a0.2.2.2.2 then a0.2.2.2.2 else (if (a0.1.2.2 : Int) < a0.2.1.2.2 then a0.2.1.2.2 else a0.1.2.2))))) := by simp only [F231]
  rw [e]
  refine con_of (n := 9) Tryz.func231 rfl (ent Tryz.func231 (by kernel_rfl) rfl) (by show 2 ≤ Tryz.f231.ntmps; decide) (by kernel_rfl) trivial (fun cx hcx => ?_)
  exact ret_of (T := T0) hT hm (f := 5000) (orc := [.call [] (iv (F243 a1.1 (if (a0.2.2.1 : Int) < (if (a0.2.1.1 : Int) < a0.1.1 then a0.2.1.1 else a0.1.1) then a0.2.2.1 else (if (a0.2.1.1 : Int) < a0.1.1 then a0.2.1.1 else a0.1.1)) (if ((if (a0.1.1 : Int) < a0.2.1.1 then a0.2.1.1 else a0.1.1) : Int) < a0.2.2.1 then a0.2.2.1 else (if (a0.1.1 : Int) < a0.2.1.1 then a0.2.1.1 else a0.1.1)))) [], .call [] (iv (F243 a1.2.1 (if (a0.2.2.2.1 : Int) < (if (a0.2.1.2.1 : Int) < a0.1.2.1 then a0.2.1.2.1 else a0.1.2.1) then a0.2.2.2.1 else (if (a0.2.1.2.1 : Int) < a0.1.2.1 then a0.2.1.2.1 else a0.1.2.1)) (if ((if (a0.1.2.1 : Int) < a0.2.1.2.1 then a0.2.1.2.1 else a0.1.2.1) : Int) < a0.2.2.2.1 then a0.2.2.2.1 else (if (a0.1.2.1 : Int) < a0.2.1.2.1 then a0.2.1.2.1 else a0.1.2.1)))) [], .call [] (iv (F243 a1.2.2 (if (a0.2.2.2.2 : Int) < (if (a0.2.1.2.2 : Int) < a0.1.2.2 then a0.2.1.2.2 else a0.1.2.2) then a0.2.2.2.2 else (if (a0.2.1.2.2 : Int) < a0.1.2.2 then a0.2.1.2.2 else a0.1.2.2)) (if ((if (a0.1.2.2 : Int) < a0.2.1.2.2 then a0.2.1.2.2 else a0.1.2.2) : Int) < a0.2.2.2.2 then a0.2.2.2.2 else (if (a0.1.2.2 : Int) < a0.2.1.2.2 then a0.2.1.2.2 else a0.1.2.2)))) [], .call [] (iv (F86 ((F243 a1.1 (if (a0.2.2.1 : Int) < (if (a0.2.1.1 : Int) < a0.1.1 then a0.2.1.1 else a0.1.1) then a0.2.2.1 else (if (a0.2.1.1 : Int) < a0.1.1 then a0.2.1.1 else a0.1.1)) (if ((if (a0.1.1 : Int) < a0.2.1.1 then a0.2.1.1 else a0.1.1) : Int) < a0.2.2.1 then a0.2.2.1 else (if (a0.1.1 : Int) < a0.2.1.1 then a0.2.1.1 else a0.1.1))), (F243 a1.2.1 (if (a0.2.2.2.1 : Int) < (if (a0.2.1.2.1 : Int) < a0.1.2.1 then a0.2.1.2.1 else a0.1.2.1) then a0.2.2.2.1 else (if (a0.2.1.2.1 : Int) < a0.1.2.1 then a0.2.1.2.1 else a0.1.2.1)) (if ((if (a0.1.2.1 : Int) < a0.2.1.2.1 then a0.2.1.2.1 else a0.1.2.1) : Int) < a0.2.2.2.1 then a0.2.2.2.1 else (if (a0.1.2.1 : Int) < a0.2.1.2.1 then a0.2.1.2.1 else a0.1.2.1))), (F243 a1.2.2 (if (a0.2.2.2.2 : Int) < (if (a0.2.1.2.2 : Int) < a0.1.2.2 then a0.2.1.2.2 else a0.1.2.2) then a0.2.2.2.2 else (if (a0.2.1.2.2 : Int) < a0.1.2.2 then a0.2.1.2.2 else a0.1.2.2)) (if ((if (a0.1.2.2 : Int) < a0.2.1.2.2 then a0.2.1.2.2 else a0.1.2.2) : Int) < a0.2.2.2.2 then a0.2.2.2.2 else (if (a0.1.2.2 : Int) < a0.2.1.2.2 then a0.2.1.2.2 else a0.1.2.2)))))) []]) [] [] [] hcx
    (obs := [.call 243 [(iv a1.1), (iv (if (a0.2.2.1 : Int) < (if (a0.2.1.1 : Int) < a0.1.1 then a0.2.1.1 else a0.1.1) then a0.2.2.1 else (if (a0.2.1.1 : Int) < a0.1.1 then a0.2.1.1 else a0.1.1))), (iv (if ((if (a0.1.1 : Int) < a0.2.1.1 then a0.2.1.1 else a0.1.1) : Int) < a0.2.2.1 then a0.2.2.1 else (if (a0.1.1 : Int) < a0.2.1.1 then a0.2.1.1 else a0.1.1)))] [] (iv (F243 a1.1 (if (a0.2.2.1 : Int) < (if (a0.2.1.1 : Int) < a0.1.1 then a0.2.1.1 else a0.1.1) then a0.2.2.1 else (if (a0.2.1.1 : Int) < a0.1.1 then a0.2.1.1 else a0.1.1)) (if ((if (a0.1.1 : Int) < a0.2.1.1 then a0.2.1.1 else a0.1.1) : Int) < a0.2.2.1 then a0.2.2.1 else (if (a0.1.1 : Int) < a0.2.1.1 then a0.2.1.1 else a0.1.1)))) [], .call 243 [(iv a1.2.1), (iv (if (a0.2.2.2.1 : Int) < (if (a0.2.1.2.1 : Int) < a0.1.2.1 then a0.2.1.2.1 else a0.1.2.1) then a0.2.2.2.1 else (if (a0.2.1.2.1 : Int) < a0.1.2.1 then a0.2.1.2.1 else a0.1.2.1))), (iv (if ((if (a0.1.2.1 : Int) < a0.2.1.2.1 then a0.2.1.2.1 else a0.1.2.1) : Int) < a0.2.2.2.1 then a0.2.2.2.1 else (if (a0.1.2.1 : Int) < a0.2.1.2.1 then a0.2.1.2.1 else a0.1.2.1)))] [] (iv (F243 a1.2.1 (if (a0.2.2.2.1 : Int) < (if (a0.2.1.2.1 : Int) < a0.1.2.1 then a0.2.1.2.1 else a0.1.2.1) then a0.2.2.2.1 else (if (a0.2.1.2.1 : Int) < a0.1.2.1 then a0.2.1.2.1 else a0.1.2.1)) (if ((if (a0.1.2.1 : Int) < a0.2.1.2.1 then a0.2.1.2.1 else a0.1.2.1) : Int) < a0.2.2.2.1 then a0.2.2.2.1 else (if (a0.1.2.1 : Int) < a0.2.1.2.1 then a0.2.1.2.1 else a0.1.2.1)))) [], .call 243 [(iv a1.2.2), (iv (if (a0.2.2.2.2 : Int) < (if (a0.2.1.2.2 : Int) < a0.1.2.2 then a0.2.1.2.2 else a0.1.2.2) then a0.2.2.2.2 else (if (a0.2.1.2.2 : Int) < a0.1.2.2 then a0.2.1.2.2 else a0.1.2.2))), (iv (if ((if (a0.1.2.2 : Int) < a0.2.1.2.2 then a0.2.1.2.2 else a0.1.2.2) : Int) < a0.2.2.2.2 then a0.2.2.2.2 else (if (a0.1.2.2 : Int) < a0.2.1.2.2 then a0.2.1.2.2 else a0.1.2.2)))] [] (iv (F243 a1.2.2 (if (a0.2.2.2.2 : Int) < (if (a0.2.1.2.2 : Int) < a0.1.2.2 then a0.2.1.2.2 else a0.1.2.2) then a0.2.2.2.2 else (if (a0.2.1.2.2 : Int) < a0.1.2.2 then a0.2.1.2.2 else a0.1.2.2)) (if ((if (a0.1.2.2 : Int) < a0.2.1.2.2 then a0.2.1.2.2 else a0.1.2.2) : Int) < a0.2.2.2.2 then a0.2.2.2.2 else (if (a0.1.2.2 : Int) < a0.2.1.2.2 then a0.2.1.2.2 else a0.1.2.2)))) [], .call 86 [(.a [(iv (F243 a1.1 (if (a0.2.2.1 : Int) < (if (a0.2.1.1 : Int) < a0.1.1 then a0.2.1.1 else a0.1.1) then a0.2.2.1 else (if (a0.2.1.1 : Int) < a0.1.1 then a0.2.1.1 else a0.1.1)) (if ((if (a0.1.1 : Int) < a0.2.1.1 then a0.2.1.1 else a0.1.1) : Int) < a0.2.2.1 then a0.2.2.1 else (if (a0.1.1 : Int) < a0.2.1.1 then a0.2.1.1 else a0.1.1)))), (iv (F243 a1.2.1 (if (a0.2.2.2.1 : Int) < (if (a0.2.1.2.1 : Int) < a0.1.2.1 then a0.2.1.2.1 else a0.1.2.1) then a0.2.2.2.1 else (if (a0.2.1.2.1 : Int) < a0.1.2.1 then a0.2.1.2.1 else a0.1.2.1)) (if ((if (a0.1.2.1 : Int) < a0.2.1.2.1 then a0.2.1.2.1 else a0.1.2.1) : Int) < a0.2.2.2.1 then a0.2.2.2.1 else (if (a0.1.2.1 : Int) < a0.2.1.2.1 then a0.2.1.2.1 else a0.1.2.1)))), (iv (F243 a1.2.2 (if (a0.2.2.2.2 : Int) < (if (a0.2.1.2.2 : Int) < a0.1.2.2 then a0.2.1.2.2 else a0.1.2.2) then a0.2.2.2.2 else (if (a0.2.1.2.2 : Int) < a0.1.2.2 then a0.2.1.2.2 else a0.1.2.2)) (if ((if (a0.1.2.2 : Int) < a0.2.1.2.2 then a0.2.1.2.2 else a0.1.2.2) : Int) < a0.2.2.2.2 then a0.2.2.2.2 else (if (a0.1.2.2 : Int) < a0.2.1.2.2 then a0.2.1.2.2 else a0.1.2.2))))])] [] (iv (F86 ((F243 a1.1 (if (a0.2.2.1 : Int) < (if (a0.2.1.1 : Int) < a0.1.1 then a0.2.1.1 else a0.1.1) then a0.2.2.1 else (if (a0.2.1.1 : Int) < a0.1.1 then a0.2.1.1 else a0.1.1)) (if ((if (a0.1.1 : Int) < a0.2.1.1 then a0.2.1.1 else a0.1.1) : Int) < a0.2.2.1 then a0.2.2.1 else (if (a0.1.1 : Int) < a0.2.1.1 then a0.2.1.1 else a0.1.1))), (F243 a1.2.1 (if (a0.2.2.2.1 : Int) < (if (a0.2.1.2.1 : Int) < a0.1.2.1 then a0.2.1.2.1 else a0.1.2.1) then a0.2.2.2.1 else (if (a0.2.1.2.1 : Int) < a0.1.2.1 then a0.2.1.2.1 else a0.1.2.1)) (if ((if (a0.1.2.1 : Int) < a0.2.1.2.1 then a0.2.1.2.1 else a0.1.2.1) : Int) < a0.2.2.2.1 then a0.2.2.2.1 else (if (a0.1.2.1 : Int) < a0.2.1.2.1 then a0.2.1.2.1 else a0.1.2.1))), (F243 a1.2.2 (if (a0.2.2.2.2 : Int) < (if (a0.2.1.2.2 : Int) < a0.1.2.2 then a0.2.1.2.2 else a0.1.2.2) then a0.2.2.2.2 else (if (a0.2.1.2.2 : Int) < a0.1.2.2 then a0.2.1.2.2 else a0.1.2.2)) (if ((if (a0.1.2.2 : Int) < a0.2.1.2.2 then a0.2.1.2.2 else a0.1.2.2) : Int) < a0.2.2.2.2 then a0.2.2.2.2 else (if (a0.1.2.2 : Int) < a0.2.1.2.2 then a0.2.1.2.2 else a0.1.2.2)))))) []]) (by kernel_rfl) ⟨(C243 a1.1 (if (a0.2.2.1 : Int) < (if (a0.2.1.1 : Int) < a0.1.1 then a0.2.1.1 else a0.1.1) then a0.2.2.1 else (if (a0.2.1.1 : Int) < a0.1.1 then a0.2.1.1 else a0.1.1)) (if ((if (a0.1.1 : Int) < a0.2.1.1 then a0.2.1.1 else a0.1.1) : Int) < a0.2.2.1 then a0.2.2.1 else (if (a0.1.1 : Int) < a0.2.1.1 then a0.2.1.1 else a0.1.1))), (C243 a1.2.1 (if (a0.2.2.2.1 : Int) < (if (a0.2.1.2.1 : Int) < a0.1.2.1 then a0.2.1.2.1 else a0.1.2.1) then a0.2.2.2.1 else (if (a0.2.1.2.1 : Int) < a0.1.2.1 then a0.2.1.2.1 else a0.1.2.1)) (if ((if (a0.1.2.1 : Int) < a0.2.1.2.1 then a0.2.1.2.1 else a0.1.2.1) : Int) < a0.2.2.2.1 then a0.2.2.2.1 else (if (a0.1.2.1 : Int) < a0.2.1.2.1 then a0.2.1.2.1 else a0.1.2.1))), (C243 a1.2.2 (if (a0.2.2.2.2 : Int) < (if (a0.2.1.2.2 : Int) < a0.1.2.2 then a0.2.1.2.2 else a0.1.2.2) then a0.2.2.2.2 else (if (a0.2.1.2.2 : Int) < a0.1.2.2 then a0.2.1.2.2 else a0.1.2.2)) (if ((if (a0.1.2.2 : Int) < a0.2.1.2.2 then a0.2.1.2.2 else a0.1.2.2) : Int) < a0.2.2.2.2 then a0.2.2.2.2 else (if (a0.1.2.2 : Int) < a0.2.1.2.2 then a0.2.1.2.2 else a0.1.2.2))), (C86 ((F243 a1.1 (if (a0.2.2.1 : Int) < (if (a0.2.1.1 : Int) < a0.1.1 then a0.2.1.1 else a0.1.1) then a0.2.2.1 else (if (a0.2.1.1 : Int) < a0.1.1 then a0.2.1.1 else a0.1.1)) (if ((if (a0.1.1 : Int) < a0.2.1.1 then a0.2.1.1 else a0.1.1) : Int) < a0.2.2.1 then a0.2.2.1 else (if (a0.1.1 : Int) < a0.2.1.1 then a0.2.1.1 else a0.1.1))), (F243 a1.2.1 (if (a0.2.2.2.1 : Int) < (if (a0.2.1.2.1 : Int) < a0.1.2.1 then a0.2.1.2.1 else a0.1.2.1) then a0.2.2.2.1 else (if (a0.2.1.2.1 : Int) < a0.1.2.1 then a0.2.1.2.1 else a0.1.2.1)) (if ((if (a0.1.2.1 : Int) < a0.2.1.2.1 then a0.2.1.2.1 else a0.1.2.1) : Int) < a0.2.2.2.1 then a0.2.2.2.1 else (if (a0.1.2.1 : Int) < a0.2.1.2.1 then a0.2.1.2.1 else a0.1.2.1))), (F243 a1.2.2 (if (a0.2.2.2.2 : Int) < (if (a0.2.1.2.2 : Int) < a0.1.2.2 then a0.2.1.2.2 else a0.1.2.2) then a0.2.2.2.2 else (if (a0.2.1.2.2 : Int) < a0.1.2.2 then a0.2.1.2.2 else a0.1.2.2)) (if ((if (a0.1.2.2 : Int) < a0.2.1.2.2 then a0.2.1.2.2 else a0.1.2.2) : Int) < a0.2.2.2.2 then a0.2.2.2.2 else (if (a0.1.2.2 : Int) < a0.2.1.2.2 then a0.2.1.2.2 else a0.1.2.2))))), trivial⟩

/-- facet/facetref04.Minus -/
def F87 (a0 : Int × Int × Int) (a1 : Int × Int × Int) : Int × Int × Int :=
  ((W (a0.1 - a1.1)), (W (a0.2.1 - a1.2.1)), (W (a0.2.2 - a1.2.2)))

theorem C87 (a0 : Int × Int × Int) (a1 : Int × Int × Int) : Con Tryz.prog 87 [(.a (k3 a0)), (.a (k3 a1))] [] (.a (k3 (F87 a0 a1))) [] := by
  have e : (F87 a0 a1) = ((W (a0.1 - a1.1)), (W (a0.2.1 - a1.2.1)), (W (a0.2.2 - a1.2.2))) := by simp only [F87]
  rw [e]
  refine con_of (n := 9) Tryz.func87 rfl (ent Tryz.func87 (by kernel_rfl) rfl) (by show 2 ≤ Tryz.f87.ntmps; decide) (by kernel_rfl) trivial (fun cx hcx => ?_)
  exact ret_of (T := T0) hT hm (f := 5000) (orc := []) [] [] [] hcx
    (obs := []) (by kernel_rfl) trivial

/-- facet/facetref08.far -/
def F230 (a0 : (Int × Int × Int) × (Int × Int × Int) × Int × Int × Int) (a1 : Int × Int × Int) : Int :=
  (if ((if ((F86 (F87 a0.1 a1)) : Int) < (F86 (F87 a0.2.1 a1)) then (F86 (F87 a0.2.1 a1)) else (F86 (F87 a0.1 a1))) : Int) < (F86 (F87 a0.2.2 a1)) then (F86 (F87 a0.2.2 a1)) else (if ((F86 (F87 a0.1 a1)) : Int) < (F86 (F87 a0.2.1 a1)) then (F86 (F87 a0.2.1 a1)) else (F86 (F87 a0.1 a1))))

theorem C230 (a0 : (Int × Int × Int) × (Int × Int × Int) × Int × Int × Int) (a1 : Int × Int × Int) : Con Tryz.prog 230 [(.a (k9 a0)), (.a (k3 a1))] [] (iv (F230 a0 a1)) [] := by
  have e : (F230 a0 a1) = (if ((if ((F86 (F87 a0.1 a1)) : Int) < (F86 (F87 a0.2.1 a1)) then (F86 (F87 a0.2.1 a1)) else (F86 (F87 a0.1 a1))) : Int) < (F86 (F87 a0.2.2 a1)) then (F86 (F87 a0.2.2 a1)) else (if ((F86 (F87 a0.1 a1)) : Int) < (F86 (F87 a0.2.1 a1)) then (F86 (F87 a0.2.1 a1)) else (F86 (F87 a0.1 a1)))) := by simp only [F230]
  rw [e]
  refine con_of (n := 9) Tryz.func230 rfl (ent Tryz.func230 (by kernel_rfl) rfl) (by show 2 ≤ Tryz.f230.ntmps; decide) (by kernel_rfl) trivial (fun cx hcx => ?_)
  exact ret_of (T := T0) hT hm (f := 5000) (orc := [.call [] (.a (k3 (F87 a0.1 a1))) [], .call [] (iv (F86 (F87 a0.1 a1))) [], .call [] (.a (k3 (F87 a0.2.1 a1))) [], .call [] (iv (F86 (F87 a0.2.1 a1))) [], .call [] (.a (k3 (F87 a0.2.2 a1))) [], .call [] (iv (F86 (F87 a0.2.2 a1))) []]) [] [] [] hcx
    (obs := [.call 87 [(.a (k3 a0.1)), (.a (k3 a1))] [] (.a (k3 (F87 a0.1 a1))) [], .call 86 [(.a (k3 (F87 a0.1 a1)))] [] (iv (F86 (F87 a0.1 a1))) [], .call 87 [(.a (k3 a0.2.1)), (.a (k3 a1))] [] (.a (k3 (F87 a0.2.1 a1))) [], .call 86 [(.a (k3 (F87 a0.2.1 a1)))] [] (iv (F86 (F87 a0.2.1 a1))) [], .call 87 [(.a (k3 a0.2.2)), (.a (k3 a1))] [] (.a (k3 (F87 a0.2.2 a1))) [], .call 86 [(.a (k3 (F87 a0.2.2 a1)))] [] (iv (F86 (F87 a0.2.2 a1))) []]) (by kernel_rfl) ⟨(C87 a0.1 a1), (C86 (F87 a0.1 a1)), (C87 a0.2.1 a1), (C86 (F87 a0.2.1 a1)), (C87 a0.2.2 a1), (C86 (F87 a0.2.2 a1)), trivial⟩

/-- facet/facetref04.Plus -/
def F228 (a0 : Int × Int × Int) (a1 : Int × Int × Int) : Int × Int × Int :=
  ((W (a0.1 + a1.1)), (W (a0.2.1 + a1.2.1)), (W (a0.2.2 + a1.2.2)))

theorem C228 (a0 : Int × Int × Int) (a1 : Int × Int × Int) : Con Tryz.prog 228 [(.a (k3 a0)), (.a (k3 a1))] [] (.a (k3 (F228 a0 a1))) [] := by
  have e : (F228 a0 a1) = ((W (a0.1 + a1.1)), (W (a0.2.1 + a1.2.1)), (W (a0.2.2 + a1.2.2))) := by simp only [F228]
  rw [e]
  refine con_of (n := 9) Tryz.func228 rfl (ent Tryz.func228 (by kernel_rfl) rfl) (by show 2 ≤ Tryz.f228.ntmps; decide) (by kernel_rfl) trivial (fun cx hcx => ?_)
  exact ret_of (T := T0) hT hm (f := 5000) (orc := []) [] [] [] hcx
    (obs := []) (by kernel_rfl) trivial

end Go.Proofs.YtnkeljlllagddaaGreat

namespace Go.Proofs.YtnkeljlllagddaaGreat
open Go.Proofs Go.Aw Go.RowKit
set_option maxRecDepth 100000
set_option linter.unusedVariables false
set_option linter.unusedSimpArgs false

/-! ### Sound: what the small functions say -/
theorem sqs_bd {s t : Int} (hs : 1 ≤ s ∧ s ≤ 1000) (ht : 0 ≤ t ∧ t ≤ 1000) : 0 ≤ s * t ∧ s * t ≤ 1000000 ∧ 0 ≤ s * t * (s * t) ∧ s * t * (s * t) ≤ 1000000000000 := by
  have h1 : 0 ≤ s * t := Int.mul_nonneg (by omega) (by omega)
  have h2 : s * t ≤ 1000 * 1000 := Int.mul_le_mul (by omega) (by omega) (by omega) (by omega)
  have h3 : s * t * (s * t) ≤ 1000000 * 1000000 := Int.mul_le_mul (by omega) (by omega) (by omega) (by omega)
  exact ⟨h1, by omega, Int.mul_nonneg h1 h1, by omega⟩
theorem square_f {n : Int} (h : -2000000000 ≤ n ∧ n ≤ 2000000000) : F186 n = n * n := by
  have h1 := mul_bd h h
  simp only [F186]; rw [W_eq (by omega) (by omega)]
theorem trav_sq {s t : Int} (hs : 1 ≤ s ∧ s ≤ 1000) (ht : 0 ≤ t ∧ t ≤ 1000) : F186 (W (s * t)) = s * t * (s * t) := by
  have h := sqs_bd hs ht
  rw [W_eq (by omega) (by omega), square_f (by omega)]
theorem trav_lt {s t n : Int} (hs : 1 ≤ s ∧ s ≤ 1000) (ht : 0 ≤ t ∧ t ≤ 1000) (hn : n ≤ 1000000) : s * t * (s * t) < n → t < 1000 := by
  intro h
  rcases Int.lt_or_le t 1000 with h' | h'
  · exact h'
  · have e : t = 1000 := by omega
    subst e
    have h2 : 1000 * 1000 ≤ s * 1000 * (s * 1000) := Int.mul_le_mul (by omega) (by omega) (by omega) (by omega)
    omega
theorem trav_f {s t n : Int} (hs : 1 ≤ s ∧ s ≤ 1000) (ht : 0 ≤ t ∧ t ≤ 1000) (hn : n ≤ 1000000) : F186 (W (s * t)) < n → t < 1000 := by
  rw [trav_sq hs ht]; exact trav_lt hs ht hn
theorem pa_d {d : Int} (h : d ≠ 0) (ha : 0 ≤ d ∧ d ≤ 3) : (0 ≤ W (d - 1) ∧ W (d - 1) ≤ 3) ∧ Int.toNat (W (d - 1)) + 1 = Int.toNat d := by
  rw [W_eq (by omega) (by omega)]; omega
/-! distances -/
theorem dist_f {p q : P3} (hp : bd 5000 p) (hq : bd 5000 q) : F114 p q = ds p q := by
  have h : bd 10000 (sb p q) := bd_sb hp hq
  have h1 := mul_bd h.1 h.1; have h2 := mul_bd h.2.1 h.2.1; have h3 := mul_bd h.2.2 h.2.2
  have n1 := sq_nn (sb p q).1; have n2 := sq_nn (sb p q).2.1; have n3 := sq_nn (sb p q).2.2
  have e1 : W (p.1 - q.1) = (sb p q).1 := W_eq (by have := h.1; simp only [sb] at this; omega) (by have := h.1; simp only [sb] at this; omega)
  have e2 : W (p.2.1 - q.2.1) = (sb p q).2.1 := W_eq (by have := h.2.1; simp only [sb] at this; omega) (by have := h.2.1; simp only [sb] at this; omega)
  have e3 : W (p.2.2 - q.2.2) = (sb p q).2.2 := W_eq (by have := h.2.2; simp only [sb] at this; omega) (by have := h.2.2; simp only [sb] at this; omega)
  unfold F114
  rw [e1, e2, e3, square_f (by have := h.1; omega), square_f (by have := h.2.1; omega), square_f (by have := h.2.2; omega), sum3 (by omega) (by omega) (by omega)]; rfl
theorem sqr_r {v : P3} (h : bd 10000 v) : F86 v = dt v v := by
  have h1 := mul_bd h.1 h.1; have h2 := mul_bd h.2.1 h.2.1; have h3 := mul_bd h.2.2 h.2.2
  have n1 := sq_nn v.1; have n2 := sq_nn v.2.1; have n3 := sq_nn v.2.2
  unfold F86
  rw [W_eq (n := v.1 * v.1) (by omega) (by omega), W_eq (n := v.2.1 * v.2.1) (by omega) (by omega), W_eq (n := v.2.2 * v.2.2) (by omega) (by omega), sum3 (by omega) (by omega) (by omega)]; rfl
theorem min_r {p q : P3} (hp : bd 5000 p) (hq : bd 5000 q) : F87 p q = sb p q := by
  unfold bd at hp hq
  unfold F87
  rw [W_eq (n := p.1 - q.1) (by omega) (by omega), W_eq (n := p.2.1 - q.2.1) (by omega) (by omega), W_eq (n := p.2.2 - q.2.2) (by omega) (by omega)]; rfl
theorem dist_r {p q : P3} (hp : bd 5000 p) (hq : bd 5000 q) : F86 (F87 p q) = ds p q := by
  rw [min_r hp hq, sqr_r (bd_sb hp hq)]; rfl
theorem gap_s {x a b c : Int} (hx : -5000 ≤ x ∧ x ≤ 5000) (hl : -5000 ≤ lo3 a b c ∧ lo3 a b c ≤ 5000) (hh : -5000 ≤ hi3 a b c ∧ hi3 a b c ≤ 5000) : F225_3 x (a, b, c) = gp (lo3 a b c) (hi3 a b c) x x := by
  show mx (mx 0 (W (lo3 a b c - x))) (W (x - hi3 a b c)) = _
  rw [W_eq (by omega) (by omega), W_eq (by omega) (by omega)]
  unfold gp mx; repeat' split <;> omega
theorem gap_t {x l h : Int} (hx : -5000 ≤ x ∧ x ≤ 5000) (hl : -5000 ≤ l ∧ l ≤ 5000) (hh : -5000 ≤ h ∧ h ≤ 5000) : F243 x l h = gp l h x x := by
  unfold F243
  rw [W_eq (n := l - x) (by omega) (by omega), W_eq (n := x - h) (by omega) (by omega)]
  unfold gp mx; repeat' split <;> omega
theorem lo3' (a b c : Int) : (if c < (if b < a then b else a) then c else (if b < a then b else a)) = lo3 a b c := by unfold lo3; simp only [Int.lt_irrefl, if_false]
theorem hi3' (a b c : Int) : (if (if a < b then b else a) < c then c else (if a < b then b else a)) = hi3 a b c := by unfold hi3; simp only [Int.lt_irrefl, if_false]
theorem sne_f {c : PN} {x : P3} (hc : bdP 5000 c) (hx : bd 5000 x) : F187 c x = ne c x := by
  have hl := blo_bd hc; have hh := bhi_bd hc
  have h1 := gp_bd hl.1 hh.1 hx.1 hx.1; have h2 := gp_bd hl.2.1 hh.2.1 hx.2.1 hx.2.1; have h3 := gp_bd hl.2.2 hh.2.2 hx.2.2 hx.2.2
  have m1 := mul_bd (a := 10000) (b := 10000) ⟨by omega, h1.2⟩ ⟨by omega, h1.2⟩; have m2 := mul_bd (a := 10000) (b := 10000) ⟨by omega, h2.2⟩ ⟨by omega, h2.2⟩; have m3 := mul_bd (a := 10000) (b := 10000) ⟨by omega, h3.2⟩ ⟨by omega, h3.2⟩
  have n1 := Int.mul_nonneg h1.1 h1.1; have n2 := Int.mul_nonneg h2.1 h2.1; have n3 := Int.mul_nonneg h3.1 h3.1
  unfold F187
  rw [gap_s hx.1 hl.1 hh.1, gap_s hx.2.1 hl.2.1 hh.2.1, gap_s hx.2.2 hl.2.2 hh.2.2]
  change W (W (F186 (gp (blo c).1 (bhi c).1 x.1 x.1) + F186 (gp (blo c).2.1 (bhi c).2.1 x.2.1 x.2.1)) + F186 (gp (blo c).2.2 (bhi c).2.2 x.2.2 x.2.2)) = _
  rw [square_f (by omega), square_f (by omega), square_f (by omega), sum3 (by omega) (by omega) (by omega)]; rfl
theorem sne_r {c : PN} {x : P3} (hc : bdP 5000 c) (hx : bd 5000 x) : F231 c x = ne c x := by
  have hl := blo_bd hc; have hh := bhi_bd hc
  have h1 := gp_bd hl.1 hh.1 hx.1 hx.1; have h2 := gp_bd hl.2.1 hh.2.1 hx.2.1 hx.2.1; have h3 := gp_bd hl.2.2 hh.2.2 hx.2.2 hx.2.2
  unfold F231
  rw [lo3', lo3', lo3', hi3', hi3', hi3']
  change F86 (F243 x.1 (blo c).1 (bhi c).1, F243 x.2.1 (blo c).2.1 (bhi c).2.1, F243 x.2.2 (blo c).2.2 (bhi c).2.2) = _
  rw [gap_t hx.1 hl.1 hh.1, gap_t hx.2.1 hl.2.1 hh.2.1, gap_t hx.2.2 hl.2.2 hh.2.2, sqr_r (by unfold bd; simp only; omega)]; rfl
theorem sfa_f {c : PN} {x : P3} (hc : bdP 5000 c) (hx : bd 5000 x) : F190 c x = fa c x := by
  show mx (mx (mx 0 (F114 c.1 x)) (F114 c.2.1 x)) (F114 c.2.2 x) = _
  rw [dist_f hc.1 hx, dist_f hc.2.1 hx, dist_f hc.2.2 hx]; rfl
theorem ds_nn (p q : P3) : 0 ≤ ds p q := dt_self _
theorem sfa_r {c : PN} {x : P3} (hc : bdP 5000 c) (hx : bd 5000 x) : F230 c x = fa c x := by
  unfold F230
  rw [dist_r hc.1 hx, dist_r hc.2.1 hx, dist_r hc.2.2 hx]
  show mx (mx (ds c.1 x) (ds c.2.1 x)) (ds c.2.2 x) = mx (mx (mx 0 (ds c.1 x)) (ds c.2.1 x)) (ds c.2.2 x)
  rw [show mx 0 (ds c.1 x) = ds c.1 x by unfold mx; have := ds_nn c.1 x; split <;> omega]
/-! what is asked -/
theorem sfrom_eq (n a b : Int) : F121 n a b = decide (a ≤ n ∧ n ≤ b) := by
  unfold F121
  by_cases h1 : a ≤ n <;> by_cases h2 : n ≤ b <;> simp [h1, h2]
theorem win8 (n a b : Int) : F124 n a b = decide (a ≤ n ∧ n ≤ b) := by
  unfold F124
  by_cases h1 : a ≤ n <;> by_cases h2 : n ≤ b <;> simp [h1, h2]
open Classical in
theorem isP_f (x : P3) : F52 x = decide (bd 256 x) := by
  unfold F52
  rw [sfrom_eq, sfrom_eq, sfrom_eq]
  exact and3 Iff.rfl
theorem isS_f (n : Int) : F53 n = decide (1 ≤ n ∧ n ≤ 16) := by unfold F53; exact sfrom_eq _ _ _
theorem w256 : W (0 - 256) = -256 := rfl
theorem size_r {n : Int} (h : F165 n ≤ 256) (h2 : n ≥ -256) : -256 ≤ n ∧ n ≤ 256 := by
  unfold F165 at h
  split at h <;> omega
theorem size_l {n : Int} (h : -256 ≤ n ∧ n ≤ 256) : F165 n ≤ 256 := by
  unfold F165
  rw [W_eq (by omega) (by omega)]
  split <;> omega
theorem small_iff (x : P3) : F85 x 256 = true ↔ bd 256 x := by
  unfold F85 bd
  rw [w256]
  constructor
  · intro h
    by_cases h1 : F165 x.1 ≤ 256 <;> by_cases h2 : F165 x.2.1 ≤ 256 <;> by_cases h3 : F165 x.2.2 ≤ 256 <;> simp [h1, h2, h3] at h
    exact ⟨size_r h1 h.1, size_r h2 h.2.1, size_r h3 h.2.2⟩
  · intro h
    have h1 := size_l h.1; have h2 := size_l h.2.1; have h3 := size_l h.2.2
    simp [h1, h2, h3, h.1.1, h.2.1.1, h.2.2.1]
open Classical in
theorem small_r (x : P3) : F85 x 256 = decide (bd 256 x) := by
  by_cases h : bd 256 x
  · rw [(small_iff x).2 h]; simp [h]
  · rw [Bool.eq_false_iff.2 (fun e => h ((small_iff x).1 e))]; simp [h]
open Classical in
theorem asked_r (x : P3) (s t d : Int) : F58 x s t d = if bd 256 x ∧ (1 ≤ s ∧ s ≤ 16) ∧ (0 ≤ t ∧ t ≤ 2000) ∧ (0 ≤ d ∧ d ≤ 3) then 0 else 1 := by
  unfold F58
  rw [small_r, win8, win8, win8]
  by_cases h1 : bd 256 x <;> by_cases h2 : 1 ≤ s ∧ s ≤ 16 <;> by_cases h3 : 0 ≤ t ∧ t ≤ 2000 <;> by_cases h4 : 0 ≤ d ∧ d ≤ 3 <;> simp [h1, h2, h3, h4]
abbrev PU := PN × Int × Int
/-- the error of a pulse -/
noncomputable def pv (p : PU) : Int := if vp p.1 = 0 then (if (0 ≤ p.2.1 ∧ p.2.1 ≤ 1000) ∧ (-100 ≤ p.2.2 ∧ p.2.2 ≤ 100) then 0 else 1) else vp p.1
theorem pv_aux (v : Int) (a b : Prop) [Decidable a] [Decidable b] : (bif (v != 0) then v else (bif (!(decide a)) then 1 else (bif (!(decide b)) then (1 : Int) else 0))) = if v = 0 then (if a ∧ b then 0 else 1) else v := by
  by_cases h : v = 0
  · subst h; by_cases ha : a <;> by_cases hb : b <;> simp [ha, hb]
  · rw [bne_iff_ne.2 h, if_neg h]; rfl
theorem vpul_1 (p : PU) : F126_1 p = pv p := by
  unfold F126_1
  rw [vp_s, sfrom_eq, sfrom_eq]; exact pv_aux _ _ _
theorem one_e (p : PU) : F127 p = pv p := by
  unfold F127
  rw [vp_r, win8, win8]; exact pv_aux _ _ _
theorem chk_1 (p : PU) (b : Bool) : F60_1 p b = if pv p = 0 then (if b = true then 0 else 1) else pv p := by
  unfold F60_1
  rw [vpul_1]
  by_cases h : pv p = 0
  · rw [h]; cases b <;> simp
  · rw [bne_iff_ne.2 h, if_neg h]; rfl
def POK (p : PU) : Prop := vp p.1 = 0 ∧ (0 ≤ p.2.1 ∧ p.2.1 ≤ 1000) ∧ (-100 ≤ p.2.2 ∧ p.2.2 ≤ 100)
theorem pv_ok {p : PU} : pv p = 0 ↔ POK p := by
  unfold pv POK
  constructor
  · intro h
    split at h
    · split at h
      · rename_i h1 h2; exact ⟨h1, h2⟩
      · cases h
    · rename_i h1; exact absurd h h1
  · intro h; rw [if_pos h.1, if_pos h.2]
theorem ckb_p {p : PU} {b : Bool} (h : ((F60_1 p b : Int) != 0) = false) : POK p := by
  have h := bne_eq_false_iff_eq.1 h
  rw [chk_1] at h
  split at h
  · rename_i h1; exact pv_ok.1 h1
  · rename_i h1; exact absurd h h1
theorem ckb_b {p : PU} {b : Bool} (h : ((F60_1 p b : Int) != 0) = false) : b = true := by
  have h := bne_eq_false_iff_eq.1 h
  rw [chk_1] at h
  split at h
  · split at h
    · assumption
    · cases h
  · rename_i h1; exact absurd h h1
theorem ask_p {x : P3} {s t d : Int} (h : ((F58 x s t d : Int) != 0) = false) : bd 256 x ∧ (1 ≤ s ∧ s ≤ 16) ∧ (0 ≤ t ∧ t ≤ 2000) ∧ (0 ≤ d ∧ d ≤ 3) := by
  have h := bne_eq_false_iff_eq.1 h
  rw [asked_r] at h
  split at h
  · assumption
  · cases h
theorem isp_p {x : P3} (h : F52 x = true) : bd 256 x := by rw [isP_f] at h; simpa using h
theorem isp_n {x : P3} (h : (!(F52 x)) = false) : bd 256 x := isp_p (by simpa using h)
theorem iss_p {n : Int} (h : F53 n = true) : 1 ≤ n ∧ n ≤ 16 := by rw [isS_f] at h; simpa using h
theorem iss_n {n : Int} (h : (!(F53 n)) = false) : 1 ≤ n ∧ n ≤ 16 := iss_p (by simpa using h)
/-! how far sound goes -/
theorem ds6 {m : Int} {p q : P3} (hp : bd m p) (hq : bd 256 q) (hm : 0 ≤ m ∧ m ≤ 256) : ds p q ≤ 786432 := by
  have h : bd 512 (sb p q) := (bd_sb hp hq).mono (by omega)
  have h1 := (dt_bd h h).2
  have : ds p q = dt (sb p q) (sb p q) := rfl
  omega
theorem fa6 {c : PN} {x : P3} (hc : bdP 64 c) (hx : bd 256 x) : fa c x ≤ 786432 :=
  mx_le (mx_le (mx_le (by omega) (ds6 hc.1 hx (by omega))) (ds6 hc.2.1 hx (by omega))) (ds6 hc.2.2 hx (by omega))
theorem tra_f {p q : P3} (hp : bd 256 p) (hq : bd 256 q) : F114 p q ≤ 1000000 := by
  rw [dist_f (hp.mono (by omega)) (hq.mono (by omega))]; have := ds6 hp hq (by omega); omega
theorem pok_bd {p : PU} (h : POK p) : bdP 64 p.1 := (vp_ok h.1).1
theorem nef6 {p : PU} {x : P3} (h : POK p) (hx : bd 256 x) : F187 p.1 x ≤ 1000000 := by
  rw [sne_f ((pok_bd h).mono (by omega)) (hx.mono (by omega))]; have := (ne_le p.1 x).2; have := fa6 (pok_bd h) hx; omega
end Go.Proofs.YtnkeljlllagddaaGreat

namespace Go.Proofs.YtnkeljlllagddaaGreat
open Go.Proofs Go.Aw Go.RowKit
set_option maxRecDepth 100000
set_option linter.unusedVariables false
set_option linter.unusedSimpArgs false

noncomputable def B113_0 : Code := (loopAtD [1, 1, 0] [] (Tryz.f113.body.getD .skip) []).1
noncomputable def K113_0 : List K := (loopAtD [1, 1, 0] [] (Tryz.f113.body.getD .skip) []).2

/-- a round of loop 0 of facet/sound.travel; the variables: v1 = s5 -/
def S113_0 (a0 : Int) (a1 : Int) : Int → (Int) ⊕ (Int)
  | v1 =>
   (bif (decide (((F186 (W (a1 * v1))) : Int) < a0)) then
    (.inl (W (v1 + 1)))
   else
    (.inr v1))

set_option maxHeartbeats 4000000 in
theorem L113_0 (a0 : Int) (a1 : Int) (hq : a0 ≤ 1000000) (hs : 1 ≤ a1 ∧ a1 ≤ 1000) {cx : Cx} (hcx : cx.base = 0) : ∀ (n : Nat) (v1 : Int), (0 ≤ v1) ∧ (v1 ≤ 1000) → Int.toNat (1000 - v1) < n → Aw.Good Tryz.prog none 9 (bodyPost Tryz.prog Tryz.f113 (RR cx (iv (loopF (S113_0 a0 a1) n v1)) [] [])) cx [] (.l B113_0 n :: K113_0) ⟨[(iv a0), (iv a1), .u, .u, .u, (iv v1), .u, .u, .u, .u, .u, .u, .u, .u, .u], []⟩ := by
  intro n
  induction n with
  | zero => intro v1 hi hn; exact absurd hn (Nat.not_lt_zero _)
  | succ n ih =>
    intro v1 hi hn
    refine good_round ?_
    cases h0 : (decide (((F186 (W (a1 * v1))) : Int) < a0)) with
    | true =>
      have q0 := of_decide_eq_true h0
      have hf := trav_f (t := v1) hs (by omega) hq
      have hw := W_eq (n := v1 + 1) (by omega) (by omega)
      have e : S113_0 a0 a1 v1 = (.inl (W (v1 + 1))) := by simp only [S113_0, h0, cond_true, cond_false]
      rw [loopF_inl e]
      refine back_of (T := T0) hT hm (f := 5000) (orc := [.call [] (iv (F186 (W (a1 * v1)))) [], .d true]) [] [0, 1, 5] [] hcx (body := B113_0) (m := n) (k' := K113_0) (s' := ⟨[(iv a0), (iv a1), .u, .u, .u, (iv (W (v1 + 1))), .u, .u, .u, .u, .u, .u, .u, .u, .u], []⟩)
        (obs := [.call 186 [(iv (W (a1 * v1)))] [] (iv (F186 (W (a1 * v1)))) [], .eq (decide (((F186 (W (a1 * v1))) : Int) < a0)) true]) (by kernel_rfl) ⟨(C186 (W (a1 * v1))), h0, trivial⟩ ?_
      exact ih (W (v1 + 1)) (by refine ⟨?_, ?_⟩ <;> (try simp only [List.length_append, List.length_cons, List.length_nil, Int.toNat_zero]) <;> first | omega | assumption | simp) (by (try simp only [List.length_append, List.length_cons, List.length_nil, Int.toNat_zero]); omega)
    | false =>
      have q0 := of_decide_eq_false h0
      have hf := trav_f (t := v1) hs (by omega) hq
      have hw := W_eq (n := v1 + 1) (by omega) (by omega)
      have e : S113_0 a0 a1 v1 = (.inr v1) := by simp only [S113_0, h0, cond_true, cond_false]
      rw [show loopF (S113_0 a0 a1) (n + 1) v1 = thenF (S113_0 a0 a1) n (S113_0 a0 a1 v1) from rfl, e]
      exact ret_of (T := T0) hT hm (f := 5000) (orc := [.call [] (iv (F186 (W (a1 * v1)))) [], .d false]) [] [] [] hcx
        (obs := [.call 186 [(iv (W (a1 * v1)))] [] (iv (F186 (W (a1 * v1)))) [], .eq (decide (((F186 (W (a1 * v1))) : Int) < a0)) false]) (by kernel_rfl) ⟨(C186 (W (a1 * v1))), h0, trivial⟩

/-- facet/sound.travel -/
def F113 (a0 : Int) (a1 : Int) : Int :=
  (loopF (S113_0 a0 a1) (Int.toNat (1000 - 0) + 1) 0)

theorem C113 (a0 : Int) (a1 : Int) (hq : a0 ≤ 1000000) (hs : 1 ≤ a1 ∧ a1 ≤ 1000) : Con Tryz.prog 113 [(iv a0), (iv a1)] [] (iv (F113 a0 a1)) [] := by
  have e : (F113 a0 a1) = (loopF (S113_0 a0 a1) (Int.toNat (1000 - 0) + 1) 0) := by simp only [F113]
  rw [e]
  refine con_of (n := 9) Tryz.func113 rfl (ent Tryz.func113 (by kernel_rfl) rfl) (by show 2 ≤ Tryz.f113.ntmps; decide) (by kernel_rfl) trivial (fun cx hcx => ?_)
  refine enter_of (T := T0) hT hm (f := 5000) (orc := []) [] [0, 1, 5] [] hcx (body := B113_0) (k' := K113_0) (s' := ⟨[(iv a0), (iv a1), .u, .u, .u, (iv 0), .u, .u, .u, .u, .u, .u, .u, .u, .u], []⟩)
    (obs := []) (by kernel_rfl) trivial ⟨Int.toNat (1000 - 0) + 1, ?_⟩
  exact L113_0 a0 a1 hq hs hcx (Int.toNat (1000 - 0) + 1) 0 (by refine ⟨?_, ?_⟩ <;> (try simp only [List.length_append, List.length_cons, List.length_nil, Int.toNat_zero]) <;> first | omega | assumption | simp) (by (try simp only [List.length_append, List.length_cons, List.length_nil, Int.toNat_zero]); omega)

/-- facet/sound.Travel -/
def F48 (a0 : Int × Int × Int) (a1 : Int × Int × Int) (a2 : Int) : Int × Int :=
  (bif (!(F52 a0)) then
   (0, 1)
  else
   (bif (!(F52 a1)) then
    (0, 1)
   else
    (bif (!(F53 a2)) then
     (0, 1)
    else
     ((F113 (F114 a0 a1) a2), 0))))

theorem C48 (a0 : Int × Int × Int) (a1 : Int × Int × Int) (a2 : Int) : Con Tryz.prog 48 [(.a (k3 a0)), (.a (k3 a1)), (iv a2)] [] (.t (k2 (F48 a0 a1 a2))) [] := by
  cases h0 : (!(F52 a0)) with
  | true =>
    have e : (F48 a0 a1 a2) = (0, 1) := by simp only [F48, h0, cond_true, cond_false]
    rw [e]
    refine con_of (n := 9) Tryz.func48 rfl (ent Tryz.func48 (by kernel_rfl) rfl) (by show 3 ≤ Tryz.f48.ntmps; decide) (by kernel_rfl) trivial (fun cx hcx => ?_)
    exact ret_of (T := T0) hT hm (f := 5000) (orc := [.call [] (.v (.bool (F52 a0))) [], .d true]) [] [] [] hcx
      (obs := [.call 52 [(.a (k3 a0))] [] (.v (.bool (F52 a0))) [], .eq (!(F52 a0)) true]) (by kernel_rfl) ⟨(C52 a0), h0, trivial⟩
  | false =>
    cases h1 : (!(F52 a1)) with
    | true =>
      have e : (F48 a0 a1 a2) = (0, 1) := by simp only [F48, h0, h1, cond_true, cond_false]
      rw [e]
      refine con_of (n := 9) Tryz.func48 rfl (ent Tryz.func48 (by kernel_rfl) rfl) (by show 3 ≤ Tryz.f48.ntmps; decide) (by kernel_rfl) trivial (fun cx hcx => ?_)
      exact ret_of (T := T0) hT hm (f := 5000) (orc := [.call [] (.v (.bool (F52 a0))) [], .d false, .call [] (.v (.bool (F52 a1))) [], .d true]) [] [] [] hcx
        (obs := [.call 52 [(.a (k3 a0))] [] (.v (.bool (F52 a0))) [], .eq (!(F52 a0)) false, .call 52 [(.a (k3 a1))] [] (.v (.bool (F52 a1))) [], .eq (!(F52 a1)) true]) (by kernel_rfl) ⟨(C52 a0), h0, (C52 a1), h1, trivial⟩
    | false =>
      cases h2 : (!(F53 a2)) with
      | true =>
        have e : (F48 a0 a1 a2) = (0, 1) := by simp only [F48, h0, h1, h2, cond_true, cond_false]
        rw [e]
        refine con_of (n := 9) Tryz.func48 rfl (ent Tryz.func48 (by kernel_rfl) rfl) (by show 3 ≤ Tryz.f48.ntmps; decide) (by kernel_rfl) trivial (fun cx hcx => ?_)
        exact ret_of (T := T0) hT hm (f := 5000) (orc := [.call [] (.v (.bool (F52 a0))) [], .d false, .call [] (.v (.bool (F52 a1))) [], .d false, .call [] (.v (.bool (F53 a2))) [], .d true]) [] [] [] hcx
          (obs := [.call 52 [(.a (k3 a0))] [] (.v (.bool (F52 a0))) [], .eq (!(F52 a0)) false, .call 52 [(.a (k3 a1))] [] (.v (.bool (F52 a1))) [], .eq (!(F52 a1)) false, .call 53 [(iv a2)] [] (.v (.bool (F53 a2))) [], .eq (!(F53 a2)) true]) (by kernel_rfl) ⟨(C52 a0), h0, (C52 a1), h1, (C53 a2), h2, trivial⟩
      | false =>
        have e : (F48 a0 a1 a2) = ((F113 (F114 a0 a1) a2), 0) := by simp only [F48, h0, h1, h2, cond_true, cond_false]
        rw [e]
        refine con_of (n := 9) Tryz.func48 rfl (ent Tryz.func48 (by kernel_rfl) rfl) (by show 3 ≤ Tryz.f48.ntmps; decide) (by kernel_rfl) trivial (fun cx hcx => ?_)
        exact ret_of (T := T0) hT hm (f := 5000) (orc := [.call [] (.v (.bool (F52 a0))) [], .d false, .call [] (.v (.bool (F52 a1))) [], .d false, .call [] (.v (.bool (F53 a2))) [], .d false, .call [] (iv (F114 a0 a1)) [], .call [] (iv (F113 (F114 a0 a1) a2)) []]) [] [] [] hcx
          (obs := [.call 52 [(.a (k3 a0))] [] (.v (.bool (F52 a0))) [], .eq (!(F52 a0)) false, .call 52 [(.a (k3 a1))] [] (.v (.bool (F52 a1))) [], .eq (!(F52 a1)) false, .call 53 [(iv a2)] [] (.v (.bool (F53 a2))) [], .eq (!(F53 a2)) false, .call 114 [(.a (k3 a0)), (.a (k3 a1))] [] (iv (F114 a0 a1)) [], .call 113 [(iv (F114 a0 a1)), (iv a2)] [] (iv (F113 (F114 a0 a1) a2)) []]) (by kernel_rfl) ⟨(C52 a0), h0, (C52 a1), h1, (C53 a2), h2, (C114 a0 a1), (C113 (F114 a0 a1) a2  (tra_f (isp_n h0) (isp_n h1)) (by have := iss_n h2; omega)), trivial⟩

/-- facet/sound.first -/
def F115 (a0 : ((Int × Int × Int) × (Int × Int × Int) × Int × Int × Int) × Int × Int) (a1 : Int × Int × Int) (a2 : Int) : Int :=
  (W (a0.2.1 + (F113 (F187 a0.1 a1) a2)))

theorem C115 (a0 : ((Int × Int × Int) × (Int × Int × Int) × Int × Int × Int) × Int × Int) (a1 : Int × Int × Int) (a2 : Int) (hp : POK a0) (hx : bd 256 a1) (hs : 1 ≤ a2 ∧ a2 ≤ 16) : Con Tryz.prog 115 [(.a [(iv a0.1.1.1), (iv a0.1.1.2.1), (iv a0.1.1.2.2), (iv a0.1.2.1.1), (iv a0.1.2.1.2.1), (iv a0.1.2.1.2.2), (iv a0.1.2.2.1), (iv a0.1.2.2.2.1), (iv a0.1.2.2.2.2), (iv a0.2.1), (iv a0.2.2)]), (.a (k3 a1)), (iv a2)] [] (iv (F115 a0 a1 a2)) [] := by
  have e : (F115 a0 a1 a2) = (W (a0.2.1 + (F113 (F187 a0.1 a1) a2))) := by simp only [F115]
  rw [e]
  refine con_of (n := 9) Tryz.func115 rfl (ent Tryz.func115 (by kernel_rfl) rfl) (by show 3 ≤ Tryz.f115.ntmps; decide) (by kernel_rfl) trivial (fun cx hcx => ?_)
  exact ret_of (T := T0) hT hm (f := 5000) (orc := [.call [] (iv (F187 a0.1 a1)) [], .call [] (iv (F113 (F187 a0.1 a1) a2)) []]) [] [] [] hcx
    (obs := [.call 187 [(.a (k9 a0.1)), (.a (k3 a1))] [] (iv (F187 a0.1 a1)) [], .call 113 [(iv (F187 a0.1 a1)), (iv a2)] [] (iv (F113 (F187 a0.1 a1) a2)) []]) (by kernel_rfl) ⟨(C187 a0.1 a1), (C113 (F187 a0.1 a1) a2  (nef6 hp hx) (by omega)), trivial⟩

/-- facet/sound.First -/
def F49 (a0 : ((Int × Int × Int) × (Int × Int × Int) × Int × Int × Int) × Int × Int) (a1 : Int × Int × Int) (a2 : Int) : Int × Int :=
  (bif (F52 a1) then
   (bif (((F60_1 a0 (F53 a2)) : Int) != 0) then
    (0, (F60_1 a0 (F53 a2)))
   else
    ((F115 a0 a1 a2), 0))
  else
   (bif (((F60_1 a0 false) : Int) != 0) then
    (0, (F60_1 a0 false))
   else
    ((F115 a0 a1 a2), 0)))

noncomputable def oC49_0 (a0 : ((Int × Int × Int) × (Int × Int × Int) × Int × Int × Int) × Int × Int) (a2 : Int) : Ob := .call 60 [(.s 0 0 1 11), (.v (.bool (F53 a2)))] [(.live false false [(iv a0.1.1.1), (iv a0.1.1.2.1), (iv a0.1.1.2.2), (iv a0.1.2.1.1), (iv a0.1.2.1.2.1), (iv a0.1.2.1.2.2), (iv a0.1.2.2.1), (iv a0.1.2.2.2.1), (iv a0.1.2.2.2.2), (iv a0.2.1), (iv a0.2.2)])] (iv (F60_1 a0 (F53 a2))) []
noncomputable def oC49_1 (a0 : ((Int × Int × Int) × (Int × Int × Int) × Int × Int × Int) × Int × Int) (a1 : Int × Int × Int) (a2 : Int) : Ob := .call 115 [(.a [(iv a0.1.1.1), (iv a0.1.1.2.1), (iv a0.1.1.2.2), (iv a0.1.2.1.1), (iv a0.1.2.1.2.1), (iv a0.1.2.1.2.2), (iv a0.1.2.2.1), (iv a0.1.2.2.2.1), (iv a0.1.2.2.2.2), (iv a0.2.1), (iv a0.2.2)]), (.a (k3 a1)), (iv a2)] [] (iv (F115 a0 a1 a2)) []
noncomputable def oC49_2 (a0 : ((Int × Int × Int) × (Int × Int × Int) × Int × Int × Int) × Int × Int) : Ob := .call 60 [(.s 0 0 1 11), (.v (.bool false))] [(.live false false [(iv a0.1.1.1), (iv a0.1.1.2.1), (iv a0.1.1.2.2), (iv a0.1.2.1.1), (iv a0.1.2.1.2.1), (iv a0.1.2.1.2.2), (iv a0.1.2.2.1), (iv a0.1.2.2.2.1), (iv a0.1.2.2.2.2), (iv a0.2.1), (iv a0.2.2)])] (iv (F60_1 a0 false)) []
theorem C49 (a0 : ((Int × Int × Int) × (Int × Int × Int) × Int × Int × Int) × Int × Int) (a1 : Int × Int × Int) (a2 : Int) : Con Tryz.prog 49 [(.a [(iv a0.1.1.1), (iv a0.1.1.2.1), (iv a0.1.1.2.2), (iv a0.1.2.1.1), (iv a0.1.2.1.2.1), (iv a0.1.2.1.2.2), (iv a0.1.2.2.1), (iv a0.1.2.2.2.1), (iv a0.1.2.2.2.2), (iv a0.2.1), (iv a0.2.2)]), (.a (k3 a1)), (iv a2)] [] (.t (k2 (F49 a0 a1 a2))) [] := by
  cases h0 : (F52 a1) with
  | true =>
    cases h1 : (((F60_1 a0 (F53 a2)) : Int) != 0) with
    | true =>
      have q1 := bne_iff_ne.1 h1
      have e : (F49 a0 a1 a2) = (0, (F60_1 a0 (F53 a2))) := by simp only [F49, h0, h1, cond_true, cond_false]
      rw [e]
      refine con_of (n := 9) Tryz.func49 rfl (ent Tryz.func49 (by kernel_rfl) rfl) (by show 3 ≤ Tryz.f49.ntmps; decide) (by kernel_rfl) trivial (fun cx hcx => ?_)
      exact ret_of (T := T0) hT hm (f := 5000) (orc := [.call [] (.v (.bool (F52 a1))) [], .d true, .call [] (.v (.bool (F53 a2))) [], .call [2] (iv (F60_1 a0 (F53 a2))) [], .d true]) [] [] [] hcx
        (obs := [.call 52 [(.a (k3 a1))] [] (.v (.bool (F52 a1))) [], .eq (F52 a1) true, .call 53 [(iv a2)] [] (.v (.bool (F53 a2))) [], (oC49_0 a0 a2), .eq (((F60_1 a0 (F53 a2)) : Int) != 0) true]) (by kernel_rfl) ⟨(C52 a1), h0, (C53 a2), (C60_1 a0 (F53 a2)), h1, trivial⟩
    | false =>
      have q1 := bne_eq_false_iff_eq.1 h1
      have e : (F49 a0 a1 a2) = ((F115 a0 a1 a2), 0) := by simp only [F49, h0, h1, cond_true, cond_false]
      rw [e]
      refine con_of (n := 9) Tryz.func49 rfl (ent Tryz.func49 (by kernel_rfl) rfl) (by show 3 ≤ Tryz.f49.ntmps; decide) (by kernel_rfl) trivial (fun cx hcx => ?_)
      exact ret_of (T := T0) hT hm (f := 5000) (orc := [.call [] (.v (.bool (F52 a1))) [], .d true, .call [] (.v (.bool (F53 a2))) [], .call [2] (iv (F60_1 a0 (F53 a2))) [], .d false, .call [] (iv (F115 a0 a1 a2)) []]) [] [] [] hcx
        (obs := [.call 52 [(.a (k3 a1))] [] (.v (.bool (F52 a1))) [], .eq (F52 a1) true, .call 53 [(iv a2)] [] (.v (.bool (F53 a2))) [], (oC49_0 a0 a2), .eq (((F60_1 a0 (F53 a2)) : Int) != 0) false, (oC49_1 a0 a1 a2)]) (by kernel_rfl) ⟨(C52 a1), h0, (C53 a2), (C60_1 a0 (F53 a2)), h1, (C115 a0 a1 a2  (ckb_p h1) (by first | exact isp_p h0 | exact absurd (ckb_b h1) (by decide)) (by first | exact iss_p (ckb_b h1) | exact absurd (ckb_b h1) (by decide))), trivial⟩
  | false =>
    cases h1 : (((F60_1 a0 false) : Int) != 0) with
    | true =>
      have q1 := bne_iff_ne.1 h1
      have e : (F49 a0 a1 a2) = (0, (F60_1 a0 false)) := by simp only [F49, h0, h1, cond_true, cond_false]
      rw [e]
      refine con_of (n := 9) Tryz.func49 rfl (ent Tryz.func49 (by kernel_rfl) rfl) (by show 3 ≤ Tryz.f49.ntmps; decide) (by kernel_rfl) trivial (fun cx hcx => ?_)
      exact ret_of (T := T0) hT hm (f := 5000) (orc := [.call [] (.v (.bool (F52 a1))) [], .d false, .call [2] (iv (F60_1 a0 false)) [], .d true]) [] [] [] hcx
        (obs := [.call 52 [(.a (k3 a1))] [] (.v (.bool (F52 a1))) [], .eq (F52 a1) false, (oC49_2 a0), .eq (((F60_1 a0 false) : Int) != 0) true]) (by kernel_rfl) ⟨(C52 a1), h0, (C60_1 a0 false), h1, trivial⟩
    | false =>
      have q1 := bne_eq_false_iff_eq.1 h1
      have e : (F49 a0 a1 a2) = ((F115 a0 a1 a2), 0) := by simp only [F49, h0, h1, cond_true, cond_false]
      rw [e]
      refine con_of (n := 9) Tryz.func49 rfl (ent Tryz.func49 (by kernel_rfl) rfl) (by show 3 ≤ Tryz.f49.ntmps; decide) (by kernel_rfl) trivial (fun cx hcx => ?_)
      exact ret_of (T := T0) hT hm (f := 5000) (orc := [.call [] (.v (.bool (F52 a1))) [], .d false, .call [2] (iv (F60_1 a0 false)) [], .d false, .call [] (iv (F115 a0 a1 a2)) []]) [] [] [] hcx
        (obs := [.call 52 [(.a (k3 a1))] [] (.v (.bool (F52 a1))) [], .eq (F52 a1) false, (oC49_2 a0), .eq (((F60_1 a0 false) : Int) != 0) false, (oC49_1 a0 a1 a2)]) (by kernel_rfl) ⟨(C52 a1), h0, (C60_1 a0 false), h1, (C115 a0 a1 a2  (ckb_p h1) (by first | exact isp_p h0 | exact absurd (ckb_b h1) (by decide)) (by first | exact iss_p (ckb_b h1) | exact absurd (ckb_b h1) (by decide))), trivial⟩

/-- facet/facetref08.double -/
def F229 (a0 : Int × Int × Int) : Int × Int × Int :=
  (F228 a0 a0)

theorem C229 (a0 : Int × Int × Int) : Con Tryz.prog 229 [(.a (k3 a0))] [] (.a (k3 (F229 a0))) [] := by
  have e : (F229 a0) = (F228 a0 a0) := by simp only [F229]
  rw [e]
  refine con_of (n := 9) Tryz.func229 rfl (ent Tryz.func229 (by kernel_rfl) rfl) (by show 1 ≤ Tryz.f229.ntmps; decide) (by kernel_rfl) trivial (fun cx hcx => ?_)
  exact ret_of (T := T0) hT hm (f := 5000) (orc := [.call [] (.a (k3 (F228 a0 a0))) []]) [] [] [] hcx
    (obs := [.call 228 [(.a (k3 a0)), (.a (k3 a0))] [] (.a (k3 (F228 a0 a0))) []]) (by kernel_rfl) ⟨(C228 a0 a0), trivial⟩

noncomputable def B192_0 : Code := (loopAtD [1, 1, 1, 1, 0, 1] [] (Tryz.f192.body.getD .skip) []).1
noncomputable def K192_0 : List K := (loopAtD [1, 1, 1, 1, 0, 1] [] (Tryz.f192.body.getD .skip) []).2

/-- a round of loop 0 of facet/facetref08.parts; the variables: v4 = s5, v5 = s6, v6 = s7 -/
def S192_0 (nr : Nat) (a0 : (Int × Int × Int) × (Int × Int × Int) × Int × Int × Int) (a1 : Int) : (List ((Int × Int × Int) × (Int × Int × Int) × Int × Int × Int)) × (List ((Int × Int × Int) × (Int × Int × Int) × Int × Int × Int)) × Int → ((List ((Int × Int × Int) × (Int × Int × Int) × Int × Int × Int)) × (List ((Int × Int × Int) × (Int × Int × Int) × Int × Int × Int)) × Int) ⊕ (List ((Int × Int × Int) × (Int × Int × Int) × Int × Int × Int))
  | (v4, v5, v6) =>
   (bif (decide ((v6 : Int) < ((v5.length : Nat) : Int))) then
    (.inl ((v4 ++ [((F229 (v5.getD (Int.toNat v6) default).1), (F228 (v5.getD (Int.toNat v6) default).1 (v5.getD (Int.toNat v6) default).2.1), (F228 (v5.getD (Int.toNat v6) default).2.2 (v5.getD (Int.toNat v6) default).1)), ((F228 (v5.getD (Int.toNat v6) default).1 (v5.getD (Int.toNat v6) default).2.1), (F229 (v5.getD (Int.toNat v6) default).2.1), (F228 (v5.getD (Int.toNat v6) default).2.1 (v5.getD (Int.toNat v6) default).2.2)), ((F228 (v5.getD (Int.toNat v6) default).2.2 (v5.getD (Int.toNat v6) default).1), (F228 (v5.getD (Int.toNat v6) default).2.1 (v5.getD (Int.toNat v6) default).2.2), (F229 (v5.getD (Int.toNat v6) default).2.2)), ((F228 (v5.getD (Int.toNat v6) default).1 (v5.getD (Int.toNat v6) default).2.1), (F228 (v5.getD (Int.toNat v6) default).2.1 (v5.getD (Int.toNat v6) default).2.2), (F228 (v5.getD (Int.toNat v6) default).2.2 (v5.getD (Int.toNat v6) default).1))]), v5, (v6 + 1)))
   else
    (.inr v4))

/-- facet/facetref08.parts -/
def R192 : Nat → ((Int × Int × Int) × (Int × Int × Int) × Int × Int × Int) → (Int) → List ((Int × Int × Int) × (Int × Int × Int) × Int × Int × Int)
  | 0, _, _ => default
  | nr + 1, a0, a1 =>
  (bif ((a1 : Int) == 0) then
   ([a0] : List ((Int × Int × Int) × (Int × Int × Int) × Int × Int × Int))
  else
   (loopF (S192_0 nr a0 a1) (Int.toNat ((((R192 nr a0 (W (a1 - 1))).length : Nat) : Int) - 0) + 1) (([] : List ((Int × Int × Int) × (Int × Int × Int) × Int × Int × Int)), (R192 nr a0 (W (a1 - 1))), 0)))

def F192 (a0 : (Int × Int × Int) × (Int × Int × Int) × Int × Int × Int) (a1 : Int) : List ((Int × Int × Int) × (Int × Int × Int) × Int × Int × Int) := R192 (Int.toNat a1 + 1) a0 a1

/-! ### The reference's parts: a recursion -/
def quad8 (x : PN) : List PN :=
  [(F229 x.1, F228 x.1 x.2.1, F228 x.2.2 x.1), (F228 x.1 x.2.1, F229 x.2.1, F228 x.2.1 x.2.2),
   (F228 x.2.2 x.1, F228 x.2.1 x.2.2, F229 x.2.2), (F228 x.1 x.2.1, F228 x.2.1 x.2.2, F228 x.2.2 x.1)]
theorem pa_in (nr : Nat) (a0 : PN) (a1 : Int) (l : List PN) : ∀ (f i : Nat) (nx : List PN), l.length - i < f → i ≤ l.length →
    loopF (S192_0 nr a0 a1) f (nx, l, (i : Int)) = nx ++ (l.drop i).flatMap quad8 := by
  intro f
  induction f with
  | zero => intro i nx h; omega
  | succ f ih =>
    intro i nx h hi
    by_cases hlt : i < l.length
    · have hs : S192_0 nr a0 a1 (nx, l, (i : Int)) = .inl (nx ++ quad8 (l.getD i default), l, ((i + 1 : Nat) : Int)) := by
        have : decide ((i : Int) < (l.length : Int)) = true := by simpa using hlt
        simp only [S192_0, this, cond_true, Int.toNat_natCast, quad8]
        rfl
      rw [loopF_inl hs, ih _ _ (by omega) (by omega)]
      have hd : l.drop i = l.getD i default :: l.drop (i + 1) := by
        rw [List.drop_eq_getElem_cons hlt]; simp [List.getD_eq_getElem?_getD, hlt]
      rw [hd, List.flatMap_cons, List.append_assoc]
    · have : decide ((i : Int) < (l.length : Int)) = false := by simpa using hlt
      have hs : S192_0 nr a0 a1 (nx, l, (i : Int)) = .inr nx := by
        simp only [S192_0, this, cond_false]
      rw [loopF_inr hs, List.drop_of_length_le (by omega)]; simp
theorem R8_eq (nr : Nat) (p : PN) (d : Int) : R192 (nr + 1) p d = if d = 0 then [p] else (R192 nr p (W (d - 1))).flatMap quad8 := by
  have := pa_in nr p d (R192 nr p (W (d - 1))) (Int.toNat ((((R192 nr p (W (d - 1))).length : Nat) : Int) - 0) + 1) 0 [] (by omega) (by omega)
  simp only [R192]
  by_cases h : d = 0
  · subst h; rfl
  · rw [if_neg h, show (d == 0) = false from by simpa using h, cond_false]
    simpa using this
theorem quad8_len (l : List PN) : (l.flatMap quad8).length = 4 * l.length := by
  induction l with
  | nil => rfl
  | cons x l ih => rw [List.flatMap_cons, List.length_append, ih]; simp only [quad8, List.length_cons, List.length_nil]; omega
theorem R8_len : ∀ (nr : Nat) (p : PN) (d : Int), 0 ≤ d ∧ d ≤ 3 → Int.toNat d < nr → (R192 nr p d).length = 4 ^ (Int.toNat d)
  | 0, p, d, _, h => by omega
  | nr + 1, p, d, hd, h => by
    rw [R8_eq]
    by_cases h0 : d = 0
    · subst h0; rfl
    · have h1 := pa_d h0 hd
      rw [if_neg h0, quad8_len, R8_len nr p _ h1.1 (by omega), ← h1.2, Nat.pow_succ, Nat.mul_comm]
theorem R8_le (nr : Nat) (p : PN) (d : Int) (hd : 0 ≤ d ∧ d ≤ 3) (h : Int.toNat d < nr) : (R192 nr p d).length ≤ 64 := by
  rw [R8_len nr p d hd h]
  have : Int.toNat d = 0 ∨ Int.toNat d = 1 ∨ Int.toNat d = 2 ∨ Int.toNat d = 3 := by omega
  rcases this with e | e | e | e <;> rw [e] <;> decide

set_option maxHeartbeats 4000000 in
theorem L192_0 (nr : Nat) (a0 : (Int × Int × Int) × (Int × Int × Int) × Int × Int × Int) (a1 : Int) (ha : 0 ≤ a1 ∧ a1 ≤ 3) (hlt : Int.toNat a1 < nr + 1) (ihr : ∀ (a0 : (Int × Int × Int) × (Int × Int × Int) × Int × Int × Int) (a1 : Int) (ha : 0 ≤ a1 ∧ a1 ≤ 3), Int.toNat a1 < nr → Con Tryz.prog 192 [(.a (k9 a0)), (iv a1)] [] (.s 0 0 (R192 nr a0 a1).length 9) [(.live true true (flat c65 (R192 nr a0 a1)))]) {cx : Cx} (hcx : cx.base = 0) : ∀ (n : Nat) (v4 : List ((Int × Int × Int) × (Int × Int × Int) × Int × Int × Int)) (v5 : List ((Int × Int × Int) × (Int × Int × Int) × Int × Int × Int)) (v6 : Int), (0 ≤ v6) ∧ (v4.length = 4 * Int.toNat v6) ∧ (v6 ≤ v5.length) ∧ (v5.length ≤ 64) → Int.toNat (((v5.length : Nat) : Int) - v6) < n → Aw.Good Tryz.prog none 9 (bodyPost Tryz.prog Tryz.f192 (RR cx (.s 0 0 (loopF (S192_0 nr a0 a1) n (v4, v5, v6)).length 9) [(.live true true (flat c65 (loopF (S192_0 nr a0 a1) n (v4, v5, v6))))] [])) cx [] (.l B192_0 n :: K192_0) ⟨[.u, .u, .u, .u, .u, (.s 0 0 v4.length 9), (.s 1 0 v5.length 9), (iv v6), .u, .u, .u, .u, .u, .u, .u, .u, .u, .u, .u, .u, .u, .u, .u, .u, .u, .u, .u, .u, .u, .u, .u, .u, .u, .u, .u, .u, .u, .u, .u, .u, .u, .u, .u, .u, .u, .u, .u, .u, .u, .u, .u, .u, .u, .u, .u, .u, .u, .u, .u, .u, .u, .u, .u, .u, .u, .u, .u, .u, .u, .u, .u, .u, .u, .u, .u], [(.live true true (flat c65 v4)), (.live true true (flat c65 v5))]⟩ := by
  intro n
  induction n with
  | zero => intro v4 v5 v6 hi hn; exact absurd hn (Nat.not_lt_zero _)
  | succ n ih =>
    intro v4 v5 v6 hi hn
    refine good_round ?_
    cases h0 : (decide ((v6 : Int) < ((v5.length : Nat) : Int))) with
    | true =>
      have q0 := of_decide_eq_true h0
      have e : S192_0 nr a0 a1 (v4, v5, v6) = (.inl ((v4 ++ [((F229 (v5.getD (Int.toNat v6) default).1), (F228 (v5.getD (Int.toNat v6) default).1 (v5.getD (Int.toNat v6) default).2.1), (F228 (v5.getD (Int.toNat v6) default).2.2 (v5.getD (Int.toNat v6) default).1)), ((F228 (v5.getD (Int.toNat v6) default).1 (v5.getD (Int.toNat v6) default).2.1), (F229 (v5.getD (Int.toNat v6) default).2.1), (F228 (v5.getD (Int.toNat v6) default).2.1 (v5.getD (Int.toNat v6) default).2.2)), ((F228 (v5.getD (Int.toNat v6) default).2.2 (v5.getD (Int.toNat v6) default).1), (F228 (v5.getD (Int.toNat v6) default).2.1 (v5.getD (Int.toNat v6) default).2.2), (F229 (v5.getD (Int.toNat v6) default).2.2)), ((F228 (v5.getD (Int.toNat v6) default).1 (v5.getD (Int.toNat v6) default).2.1), (F228 (v5.getD (Int.toNat v6) default).2.1 (v5.getD (Int.toNat v6) default).2.2), (F228 (v5.getD (Int.toNat v6) default).2.2 (v5.getD (Int.toNat v6) default).1))]), v5, (v6 + 1))) := by simp only [S192_0, h0, cond_true, cond_false]
      rw [loopF_inl e]
      refine back_of (T := T0) hT hm (f := 5000) (orc := [.d true, .ld (k3 (v5.getD (Int.toNat v6) default).1), .ld (k3 (v5.getD (Int.toNat v6) default).2.1), .ld (k3 (v5.getD (Int.toNat v6) default).2.2), .call [] (.a (k3 (F228 (v5.getD (Int.toNat v6) default).1 (v5.getD (Int.toNat v6) default).2.1))) [], .call [] (.a (k3 (F228 (v5.getD (Int.toNat v6) default).2.1 (v5.getD (Int.toNat v6) default).2.2))) [], .call [] (.a (k3 (F228 (v5.getD (Int.toNat v6) default).2.2 (v5.getD (Int.toNat v6) default).1))) [], .call [] (.a (k3 (F229 (v5.getD (Int.toNat v6) default).1))) [], .call [] (.a (k3 (F229 (v5.getD (Int.toNat v6) default).2.1))) [], .call [] (.a (k3 (F229 (v5.getD (Int.toNat v6) default).2.2))) []]) [] [5, 6, 7] [9, 1] hcx (body := B192_0) (m := n) (k' := K192_0) (s' := ⟨[.u, .u, .u, .u, .u, (.s 0 0 (v4.length + 4) 9), (.s 1 0 v5.length 9), (iv (W (v6 + 1))), .u, .u, .u, .u, .u, .u, .u, .u, .u, .u, .u, .u, .u, .u, .u, .u, .u, .u, .u, .u, .u, .u, .u, .u, .u, .u, .u, .u, .u, .u, .u, .u, .u, .u, .u, .u, .u, .u, .u, .u, .u, .u, .u, .u, .u, .u, .u, .u, .u, .u, .u, .u, .u, .u, .u, .u, .u, .u, .u, .u, .u, .u, .u, .u, .u, .u, .u], [(.live true true (flat c65 v4 ++ [(iv (F229 (v5.getD (Int.toNat v6) default).1).1), (iv (F229 (v5.getD (Int.toNat v6) default).1).2.1), (iv (F229 (v5.getD (Int.toNat v6) default).1).2.2), (iv (F228 (v5.getD (Int.toNat v6) default).1 (v5.getD (Int.toNat v6) default).2.1).1), (iv (F228 (v5.getD (Int.toNat v6) default).1 (v5.getD (Int.toNat v6) default).2.1).2.1), (iv (F228 (v5.getD (Int.toNat v6) default).1 (v5.getD (Int.toNat v6) default).2.1).2.2), (iv (F228 (v5.getD (Int.toNat v6) default).2.2 (v5.getD (Int.toNat v6) default).1).1), (iv (F228 (v5.getD (Int.toNat v6) default).2.2 (v5.getD (Int.toNat v6) default).1).2.1), (iv (F228 (v5.getD (Int.toNat v6) default).2.2 (v5.getD (Int.toNat v6) default).1).2.2), (iv (F228 (v5.getD (Int.toNat v6) default).1 (v5.getD (Int.toNat v6) default).2.1).1), (iv (F228 (v5.getD (Int.toNat v6) default).1 (v5.getD (Int.toNat v6) default).2.1).2.1), (iv (F228 (v5.getD (Int.toNat v6) default).1 (v5.getD (Int.toNat v6) default).2.1).2.2), (iv (F229 (v5.getD (Int.toNat v6) default).2.1).1), (iv (F229 (v5.getD (Int.toNat v6) default).2.1).2.1), (iv (F229 (v5.getD (Int.toNat v6) default).2.1).2.2), (iv (F228 (v5.getD (Int.toNat v6) default).2.1 (v5.getD (Int.toNat v6) default).2.2).1), (iv (F228 (v5.getD (Int.toNat v6) default).2.1 (v5.getD (Int.toNat v6) default).2.2).2.1), (iv (F228 (v5.getD (Int.toNat v6) default).2.1 (v5.getD (Int.toNat v6) default).2.2).2.2), (iv (F228 (v5.getD (Int.toNat v6) default).2.2 (v5.getD (Int.toNat v6) default).1).1), (iv (F228 (v5.getD (Int.toNat v6) default).2.2 (v5.getD (Int.toNat v6) default).1).2.1), (iv (F228 (v5.getD (Int.toNat v6) default).2.2 (v5.getD (Int.toNat v6) default).1).2.2), (iv (F228 (v5.getD (Int.toNat v6) default).2.1 (v5.getD (Int.toNat v6) default).2.2).1), (iv (F228 (v5.getD (Int.toNat v6) default).2.1 (v5.getD (Int.toNat v6) default).2.2).2.1), (iv (F228 (v5.getD (Int.toNat v6) default).2.1 (v5.getD (Int.toNat v6) default).2.2).2.2), (iv (F229 (v5.getD (Int.toNat v6) default).2.2).1), (iv (F229 (v5.getD (Int.toNat v6) default).2.2).2.1), (iv (F229 (v5.getD (Int.toNat v6) default).2.2).2.2), (iv (F228 (v5.getD (Int.toNat v6) default).1 (v5.getD (Int.toNat v6) default).2.1).1), (iv (F228 (v5.getD (Int.toNat v6) default).1 (v5.getD (Int.toNat v6) default).2.1).2.1), (iv (F228 (v5.getD (Int.toNat v6) default).1 (v5.getD (Int.toNat v6) default).2.1).2.2), (iv (F228 (v5.getD (Int.toNat v6) default).2.1 (v5.getD (Int.toNat v6) default).2.2).1), (iv (F228 (v5.getD (Int.toNat v6) default).2.1 (v5.getD (Int.toNat v6) default).2.2).2.1), (iv (F228 (v5.getD (Int.toNat v6) default).2.1 (v5.getD (Int.toNat v6) default).2.2).2.2), (iv (F228 (v5.getD (Int.toNat v6) default).2.2 (v5.getD (Int.toNat v6) default).1).1), (iv (F228 (v5.getD (Int.toNat v6) default).2.2 (v5.getD (Int.toNat v6) default).1).2.1), (iv (F228 (v5.getD (Int.toNat v6) default).2.2 (v5.getD (Int.toNat v6) default).1).2.2)])), (.live true true (flat c65 v5))]⟩)
        (obs := [.eq (decide ((v6 : Int) < ((v5.length : Nat) : Int))) true, .pr (0 ≤ (v6 : Int) ∧ (v6 : Int) < ((v5.length : Nat) : Int)), .pr (((((flat c65 v5)).drop (0 + Int.toNat v6 * 9 + 0)).take 3) = (k3 (v5.getD (Int.toNat v6) default).1)), .pr (0 ≤ (v6 : Int) ∧ (v6 : Int) < ((v5.length : Nat) : Int)), .pr (((((flat c65 v5)).drop (0 + Int.toNat v6 * 9 + 3)).take 3) = (k3 (v5.getD (Int.toNat v6) default).2.1)), .pr (0 ≤ (v6 : Int) ∧ (v6 : Int) < ((v5.length : Nat) : Int)), .pr (((((flat c65 v5)).drop (0 + Int.toNat v6 * 9 + 6)).take 3) = (k3 (v5.getD (Int.toNat v6) default).2.2)), .call 228 [(.a (k3 (v5.getD (Int.toNat v6) default).1)), (.a (k3 (v5.getD (Int.toNat v6) default).2.1))] [] (.a (k3 (F228 (v5.getD (Int.toNat v6) default).1 (v5.getD (Int.toNat v6) default).2.1))) [], .call 228 [(.a (k3 (v5.getD (Int.toNat v6) default).2.1)), (.a (k3 (v5.getD (Int.toNat v6) default).2.2))] [] (.a (k3 (F228 (v5.getD (Int.toNat v6) default).2.1 (v5.getD (Int.toNat v6) default).2.2))) [], .call 228 [(.a (k3 (v5.getD (Int.toNat v6) default).2.2)), (.a (k3 (v5.getD (Int.toNat v6) default).1))] [] (.a (k3 (F228 (v5.getD (Int.toNat v6) default).2.2 (v5.getD (Int.toNat v6) default).1))) [], .call 229 [(.a (k3 (v5.getD (Int.toNat v6) default).1))] [] (.a (k3 (F229 (v5.getD (Int.toNat v6) default).1))) [], .call 229 [(.a (k3 (v5.getD (Int.toNat v6) default).2.1))] [] (.a (k3 (F229 (v5.getD (Int.toNat v6) default).2.1))) [], .call 229 [(.a (k3 (v5.getD (Int.toNat v6) default).2.2))] [] (.a (k3 (F229 (v5.getD (Int.toNat v6) default).2.2))) [], .pr ((flat c65 v4).length = v4.length * 9 ∧ v4.length + 4 ≤ 2 ^ 40 ∧ (v4.length + 4) * 72 ≤ 2 ^ 47)]) (by kernel_rfl) ⟨h0, (show 0 ≤ (v6 : Int) ∧ (v6 : Int) < ((v5.length : Nat) : Int) from by first | omega | (rw [W_eq] <;> omega) | exact u64_nn _), (ld_part c65_len default v5 v6 0 3 (by omega) (by decide) (by omega) rfl), (show 0 ≤ (v6 : Int) ∧ (v6 : Int) < ((v5.length : Nat) : Int) from by first | omega | (rw [W_eq] <;> omega) | exact u64_nn _), (ld_part c65_len default v5 v6 3 3 (by omega) (by decide) (by omega) rfl), (show 0 ≤ (v6 : Int) ∧ (v6 : Int) < ((v5.length : Nat) : Int) from by first | omega | (rw [W_eq] <;> omega) | exact u64_nn _), (ld_part c65_len default v5 v6 6 3 (by omega) (by decide) (by omega) rfl), (C228 (v5.getD (Int.toNat v6) default).1 (v5.getD (Int.toNat v6) default).2.1), (C228 (v5.getD (Int.toNat v6) default).2.1 (v5.getD (Int.toNat v6) default).2.2), (C228 (v5.getD (Int.toNat v6) default).2.2 (v5.getD (Int.toNat v6) default).1), (C229 (v5.getD (Int.toNat v6) default).1), (C229 (v5.getD (Int.toNat v6) default).2.1), (C229 (v5.getD (Int.toNat v6) default).2.2), (app_ok c65_len (by omega) (by omega)), trivial⟩ ?_
      have z0 : (W (v6 + 1)) = (v6 + 1) := W_eq (by omega) (by omega)
      have z1 : (flat c65 v4 ++ [(iv (F229 (v5.getD (Int.toNat v6) default).1).1), (iv (F229 (v5.getD (Int.toNat v6) default).1).2.1), (iv (F229 (v5.getD (Int.toNat v6) default).1).2.2), (iv (F228 (v5.getD (Int.toNat v6) default).1 (v5.getD (Int.toNat v6) default).2.1).1), (iv (F228 (v5.getD (Int.toNat v6) default).1 (v5.getD (Int.toNat v6) default).2.1).2.1), (iv (F228 (v5.getD (Int.toNat v6) default).1 (v5.getD (Int.toNat v6) default).2.1).2.2), (iv (F228 (v5.getD (Int.toNat v6) default).2.2 (v5.getD (Int.toNat v6) default).1).1), (iv (F228 (v5.getD (Int.toNat v6) default).2.2 (v5.getD (Int.toNat v6) default).1).2.1), (iv (F228 (v5.getD (Int.toNat v6) default).2.2 (v5.getD (Int.toNat v6) default).1).2.2), (iv (F228 (v5.getD (Int.toNat v6) default).1 (v5.getD (Int.toNat v6) default).2.1).1), (iv (F228 (v5.getD (Int.toNat v6) default).1 (v5.getD (Int.toNat v6) default).2.1).2.1), (iv (F228 (v5.getD (Int.toNat v6) default).1 (v5.getD (Int.toNat v6) default).2.1).2.2), (iv (F229 (v5.getD (Int.toNat v6) default).2.1).1), (iv (F229 (v5.getD (Int.toNat v6) default).2.1).2.1), (iv (F229 (v5.getD (Int.toNat v6) default).2.1).2.2), (iv (F228 (v5.getD (Int.toNat v6) default).2.1 (v5.getD (Int.toNat v6) default).2.2).1), (iv (F228 (v5.getD (Int.toNat v6) default).2.1 (v5.getD (Int.toNat v6) default).2.2).2.1), (iv (F228 (v5.getD (Int.toNat v6) default).2.1 (v5.getD (Int.toNat v6) default).2.2).2.2), (iv (F228 (v5.getD (Int.toNat v6) default).2.2 (v5.getD (Int.toNat v6) default).1).1), (iv (F228 (v5.getD (Int.toNat v6) default).2.2 (v5.getD (Int.toNat v6) default).1).2.1), (iv (F228 (v5.getD (Int.toNat v6) default).2.2 (v5.getD (Int.toNat v6) default).1).2.2), (iv (F228 (v5.getD (Int.toNat v6) default).2.1 (v5.getD (Int.toNat v6) default).2.2).1), (iv (F228 (v5.getD (Int.toNat v6) default).2.1 (v5.getD (Int.toNat v6) default).2.2).2.1), (iv (F228 (v5.getD (Int.toNat v6) default).2.1 (v5.getD (Int.toNat v6) default).2.2).2.2), (iv (F229 (v5.getD (Int.toNat v6) default).2.2).1), (iv (F229 (v5.getD (Int.toNat v6) default).2.2).2.1), (iv (F229 (v5.getD (Int.toNat v6) default).2.2).2.2), (iv (F228 (v5.getD (Int.toNat v6) default).1 (v5.getD (Int.toNat v6) default).2.1).1), (iv (F228 (v5.getD (Int.toNat v6) default).1 (v5.getD (Int.toNat v6) default).2.1).2.1), (iv (F228 (v5.getD (Int.toNat v6) default).1 (v5.getD (Int.toNat v6) default).2.1).2.2), (iv (F228 (v5.getD (Int.toNat v6) default).2.1 (v5.getD (Int.toNat v6) default).2.2).1), (iv (F228 (v5.getD (Int.toNat v6) default).2.1 (v5.getD (Int.toNat v6) default).2.2).2.1), (iv (F228 (v5.getD (Int.toNat v6) default).2.1 (v5.getD (Int.toNat v6) default).2.2).2.2), (iv (F228 (v5.getD (Int.toNat v6) default).2.2 (v5.getD (Int.toNat v6) default).1).1), (iv (F228 (v5.getD (Int.toNat v6) default).2.2 (v5.getD (Int.toNat v6) default).1).2.1), (iv (F228 (v5.getD (Int.toNat v6) default).2.2 (v5.getD (Int.toNat v6) default).1).2.2)]) = (flat c65 (v4 ++ [((F229 (v5.getD (Int.toNat v6) default).1), (F228 (v5.getD (Int.toNat v6) default).1 (v5.getD (Int.toNat v6) default).2.1), (F228 (v5.getD (Int.toNat v6) default).2.2 (v5.getD (Int.toNat v6) default).1)), ((F228 (v5.getD (Int.toNat v6) default).1 (v5.getD (Int.toNat v6) default).2.1), (F229 (v5.getD (Int.toNat v6) default).2.1), (F228 (v5.getD (Int.toNat v6) default).2.1 (v5.getD (Int.toNat v6) default).2.2)), ((F228 (v5.getD (Int.toNat v6) default).2.2 (v5.getD (Int.toNat v6) default).1), (F228 (v5.getD (Int.toNat v6) default).2.1 (v5.getD (Int.toNat v6) default).2.2), (F229 (v5.getD (Int.toNat v6) default).2.2)), ((F228 (v5.getD (Int.toNat v6) default).1 (v5.getD (Int.toNat v6) default).2.1), (F228 (v5.getD (Int.toNat v6) default).2.1 (v5.getD (Int.toNat v6) default).2.2), (F228 (v5.getD (Int.toNat v6) default).2.2 (v5.getD (Int.toNat v6) default).1))])) := (flat_append (c := c65) (l := v4) (m := [((F229 (v5.getD (Int.toNat v6) default).1), (F228 (v5.getD (Int.toNat v6) default).1 (v5.getD (Int.toNat v6) default).2.1), (F228 (v5.getD (Int.toNat v6) default).2.2 (v5.getD (Int.toNat v6) default).1)), ((F228 (v5.getD (Int.toNat v6) default).1 (v5.getD (Int.toNat v6) default).2.1), (F229 (v5.getD (Int.toNat v6) default).2.1), (F228 (v5.getD (Int.toNat v6) default).2.1 (v5.getD (Int.toNat v6) default).2.2)), ((F228 (v5.getD (Int.toNat v6) default).2.2 (v5.getD (Int.toNat v6) default).1), (F228 (v5.getD (Int.toNat v6) default).2.1 (v5.getD (Int.toNat v6) default).2.2), (F229 (v5.getD (Int.toNat v6) default).2.2)), ((F228 (v5.getD (Int.toNat v6) default).1 (v5.getD (Int.toNat v6) default).2.1), (F228 (v5.getD (Int.toNat v6) default).2.1 (v5.getD (Int.toNat v6) default).2.2), (F228 (v5.getD (Int.toNat v6) default).2.2 (v5.getD (Int.toNat v6) default).1))])).symm
      have z2 : (v4.length + 4) = (v4 ++ [((F229 (v5.getD (Int.toNat v6) default).1), (F228 (v5.getD (Int.toNat v6) default).1 (v5.getD (Int.toNat v6) default).2.1), (F228 (v5.getD (Int.toNat v6) default).2.2 (v5.getD (Int.toNat v6) default).1)), ((F228 (v5.getD (Int.toNat v6) default).1 (v5.getD (Int.toNat v6) default).2.1), (F229 (v5.getD (Int.toNat v6) default).2.1), (F228 (v5.getD (Int.toNat v6) default).2.1 (v5.getD (Int.toNat v6) default).2.2)), ((F228 (v5.getD (Int.toNat v6) default).2.2 (v5.getD (Int.toNat v6) default).1), (F228 (v5.getD (Int.toNat v6) default).2.1 (v5.getD (Int.toNat v6) default).2.2), (F229 (v5.getD (Int.toNat v6) default).2.2)), ((F228 (v5.getD (Int.toNat v6) default).1 (v5.getD (Int.toNat v6) default).2.1), (F228 (v5.getD (Int.toNat v6) default).2.1 (v5.getD (Int.toNat v6) default).2.2), (F228 (v5.getD (Int.toNat v6) default).2.2 (v5.getD (Int.toNat v6) default).1))]).length := len_app v4 [((F229 (v5.getD (Int.toNat v6) default).1), (F228 (v5.getD (Int.toNat v6) default).1 (v5.getD (Int.toNat v6) default).2.1), (F228 (v5.getD (Int.toNat v6) default).2.2 (v5.getD (Int.toNat v6) default).1)), ((F228 (v5.getD (Int.toNat v6) default).1 (v5.getD (Int.toNat v6) default).2.1), (F229 (v5.getD (Int.toNat v6) default).2.1), (F228 (v5.getD (Int.toNat v6) default).2.1 (v5.getD (Int.toNat v6) default).2.2)), ((F228 (v5.getD (Int.toNat v6) default).2.2 (v5.getD (Int.toNat v6) default).1), (F228 (v5.getD (Int.toNat v6) default).2.1 (v5.getD (Int.toNat v6) default).2.2), (F229 (v5.getD (Int.toNat v6) default).2.2)), ((F228 (v5.getD (Int.toNat v6) default).1 (v5.getD (Int.toNat v6) default).2.1), (F228 (v5.getD (Int.toNat v6) default).2.1 (v5.getD (Int.toNat v6) default).2.2), (F228 (v5.getD (Int.toNat v6) default).2.2 (v5.getD (Int.toNat v6) default).1))] rfl
      rw [z0, z1, z2]
      exact ih (v4 ++ [((F229 (v5.getD (Int.toNat v6) default).1), (F228 (v5.getD (Int.toNat v6) default).1 (v5.getD (Int.toNat v6) default).2.1), (F228 (v5.getD (Int.toNat v6) default).2.2 (v5.getD (Int.toNat v6) default).1)), ((F228 (v5.getD (Int.toNat v6) default).1 (v5.getD (Int.toNat v6) default).2.1), (F229 (v5.getD (Int.toNat v6) default).2.1), (F228 (v5.getD (Int.toNat v6) default).2.1 (v5.getD (Int.toNat v6) default).2.2)), ((F228 (v5.getD (Int.toNat v6) default).2.2 (v5.getD (Int.toNat v6) default).1), (F228 (v5.getD (Int.toNat v6) default).2.1 (v5.getD (Int.toNat v6) default).2.2), (F229 (v5.getD (Int.toNat v6) default).2.2)), ((F228 (v5.getD (Int.toNat v6) default).1 (v5.getD (Int.toNat v6) default).2.1), (F228 (v5.getD (Int.toNat v6) default).2.1 (v5.getD (Int.toNat v6) default).2.2), (F228 (v5.getD (Int.toNat v6) default).2.2 (v5.getD (Int.toNat v6) default).1))]) v5 (v6 + 1) (by refine ⟨?_, ?_, ?_, ?_⟩ <;> (try simp only [List.length_append, List.length_cons, List.length_nil, Int.toNat_zero]) <;> first | omega | assumption | simp) (by (try simp only [List.length_append, List.length_cons, List.length_nil, Int.toNat_zero]); omega)
    | false =>
      have q0 := of_decide_eq_false h0
      have e : S192_0 nr a0 a1 (v4, v5, v6) = (.inr v4) := by simp only [S192_0, h0, cond_true, cond_false]
      rw [show loopF (S192_0 nr a0 a1) (n + 1) (v4, v5, v6) = thenF (S192_0 nr a0 a1) n (S192_0 nr a0 a1 (v4, v5, v6)) from rfl, e]
      exact ret_of (T := T0) hT hm (f := 5000) (orc := [.d false]) [] [] [0] hcx
        (obs := [.eq (decide ((v6 : Int) < ((v5.length : Nat) : Int))) false]) (by kernel_rfl) ⟨h0, trivial⟩

theorem Cr192 : ∀ (nr : Nat) (a0 : (Int × Int × Int) × (Int × Int × Int) × Int × Int × Int) (a1 : Int) (ha : 0 ≤ a1 ∧ a1 ≤ 3), Int.toNat a1 < nr → Con Tryz.prog 192 [(.a (k9 a0)), (iv a1)] [] (.s 0 0 (R192 nr a0 a1).length 9) [(.live true true (flat c65 (R192 nr a0 a1)))] := by
  intro nr
  induction nr with
  | zero => intro a0 a1 ha hlt; exact absurd hlt (Nat.not_lt_zero _)
  | succ nr ihr =>
  intro a0 a1 ha hlt
  cases h0 : ((a1 : Int) == 0) with
  | true =>
    have q0 := eq_of_beq h0
    have hpl : a1 ≠ 0 → (R192 nr a0 (W (a1 - 1))).length ≤ 64 := fun h => R8_le nr a0 _ (pa_d h ha).1 (by have := (pa_d h ha).2; omega)
    have e : (R192 (nr + 1) a0 a1) = ([a0] : List ((Int × Int × Int) × (Int × Int × Int) × Int × Int × Int)) := by simp only [R192, h0, cond_true, cond_false]
    rw [e]
    refine con_of (n := 9) Tryz.func192 rfl (ent Tryz.func192 (by kernel_rfl) rfl) (by show 2 ≤ Tryz.f192.ntmps; decide) (by kernel_rfl) trivial (fun cx hcx => ?_)
    exact ret_of (T := T0) hT hm (f := 5000) (orc := [.d true]) [.sym 1 true] [] [1] hcx
      (obs := [.eq ((a1 : Int) == 0) true]) (by kernel_rfl) ⟨h0, trivial⟩
  | false =>
    have q0 := ne_of_beq_false h0
    have hpl : a1 ≠ 0 → (R192 nr a0 (W (a1 - 1))).length ≤ 64 := fun h => R8_le nr a0 _ (pa_d h ha).1 (by have := (pa_d h ha).2; omega)
    have e : (R192 (nr + 1) a0 a1) = (loopF (S192_0 nr a0 a1) (Int.toNat ((((R192 nr a0 (W (a1 - 1))).length : Nat) : Int) - 0) + 1) (([] : List ((Int × Int × Int) × (Int × Int × Int) × Int × Int × Int)), (R192 nr a0 (W (a1 - 1))), 0)) := by simp only [R192, h0, cond_true, cond_false]
    rw [e]
    refine con_of (n := 9) Tryz.func192 rfl (ent Tryz.func192 (by kernel_rfl) rfl) (by show 2 ≤ Tryz.f192.ntmps; decide) (by kernel_rfl) trivial (fun cx hcx => ?_)
    refine enter_of (T := T0) hT hm (f := 5000) (orc := [.d false, .call [] (.s 0 0 (R192 nr a0 (W (a1 - 1))).length 9) [(.live true true (flat c65 (R192 nr a0 (W (a1 - 1)))))]]) [.slot 5 9] [5, 6, 7] [2, 1] hcx (body := B192_0) (k' := K192_0) (s' := ⟨[.u, .u, .u, .u, .u, (.s 0 0 0 9), (.s 1 0 (R192 nr a0 (W (a1 - 1))).length 9), (iv 0), .u, .u, .u, .u, .u, .u, .u, .u, .u, .u, .u, .u, .u, .u, .u, .u, .u, .u, .u, .u, .u, .u, .u, .u, .u, .u, .u, .u, .u, .u, .u, .u, .u, .u, .u, .u, .u, .u, .u, .u, .u, .u, .u, .u, .u, .u, .u, .u, .u, .u, .u, .u, .u, .u, .u, .u, .u, .u, .u, .u, .u, .u, .u, .u, .u, .u, .u], [(.live true true (flat c65 ([] : List ((Int × Int × Int) × (Int × Int × Int) × Int × Int × Int)))), (.live true true (flat c65 (R192 nr a0 (W (a1 - 1)))))]⟩)
      (obs := [.eq ((a1 : Int) == 0) false, .call 192 [(.a (k9 a0)), (iv (W (a1 - 1)))] [] (.s 0 0 (R192 nr a0 (W (a1 - 1))).length 9) [(.live true true (flat c65 (R192 nr a0 (W (a1 - 1)))))]]) (by kernel_rfl) ⟨h0, (ihr a0 (W (a1 - 1))  (pa_d (ne_of_beq_false h0) ha).1 (by have := (pa_d (ne_of_beq_false h0) ha).2; omega)), trivial⟩ ⟨Int.toNat ((((R192 nr a0 (W (a1 - 1))).length : Nat) : Int) - 0) + 1, ?_⟩
    exact L192_0 nr a0 a1 ha hlt ihr hcx (Int.toNat ((((R192 nr a0 (W (a1 - 1))).length : Nat) : Int) - 0) + 1) ([] : List ((Int × Int × Int) × (Int × Int × Int) × Int × Int × Int)) (R192 nr a0 (W (a1 - 1))) 0 (by refine ⟨?_, ?_, ?_, ?_⟩ <;> (try simp only [List.length_append, List.length_cons, List.length_nil, Int.toNat_zero]) <;> first | omega | assumption | simp) (by (try simp only [List.length_append, List.length_cons, List.length_nil, Int.toNat_zero]); omega)

theorem C192 (a0 : (Int × Int × Int) × (Int × Int × Int) × Int × Int × Int) (a1 : Int) (ha : 0 ≤ a1 ∧ a1 ≤ 3) : Con Tryz.prog 192 [(.a (k9 a0)), (iv a1)] [] (.s 0 0 (F192 a0 a1).length 9) [(.live true true (flat c65 (F192 a0 a1)))] := Cr192 (Int.toNat a1 + 1) a0 a1 ha (Nat.lt_succ_self _)

end Go.Proofs.YtnkeljlllagddaaGreat

namespace Go.Proofs.YtnkeljlllagddaaGreat
open Go.Proofs Go.Aw Go.RowKit
set_option maxRecDepth 100000
set_option linter.unusedVariables false
set_option linter.unusedSimpArgs false

/-- (facet/sound.shell).gives -/
def F189 (a0 : Int × Int × Int) (a1 : Int) (a2 : Int) : (Int × Int) × Int :=
  (bif (decide ((a2 : Int) ≤ a0.1)) then
   ((0, 0), 0)
  else
   (bif (decide ((a1 : Int) > a0.2.1)) then
    ((0, 0), 0)
   else
    (bif (decide ((a1 : Int) > a0.1)) then
     (bif (((if (a1 : Int) < a0.1 then a0.1 else a1) : Int) == 0) then
      ((0, 0), 10)
     else
      (bif (((F130 (if (a1 : Int) < a0.1 then a0.1 else a1) a0.2.2).2 : Int) != 0) then
       ((0, (F130 (if (a1 : Int) < a0.1 then a0.1 else a1) a0.2.2).1.2), (F130 (if (a1 : Int) < a0.1 then a0.1 else a1) a0.2.2).2)
      else
       (bif (!(decide ((a2 : Int) ≤ a0.2.1))) then
        ((0, (F130 (if (a1 : Int) < a0.1 then a0.1 else a1) a0.2.2).1.2), (F130 (if (a1 : Int) < a0.1 then a0.1 else a1) a0.2.2).2)
       else
        (((F130 a2 a0.2.2).1.1, (F130 (if (a1 : Int) < a0.1 then a0.1 else a1) a0.2.2).1.2), (F130 a2 a0.2.2).2))))
    else
     (bif (((if (a1 : Int) < a0.1 then a0.1 else a1) : Int) == 0) then
      ((0, 0), 10)
     else
      (bif (((F130 (if (a1 : Int) < a0.1 then a0.1 else a1) a0.2.2).2 : Int) != 0) then
       ((0, (F130 (if (a1 : Int) < a0.1 then a0.1 else a1) a0.2.2).1.2), (F130 (if (a1 : Int) < a0.1 then a0.1 else a1) a0.2.2).2)
      else
       ((0, (F130 (if (a1 : Int) < a0.1 then a0.1 else a1) a0.2.2).1.2), (F130 (if (a1 : Int) < a0.1 then a0.1 else a1) a0.2.2).2))))))

noncomputable def oC189_0 (a0 : Int × Int × Int) (a1 : Int) : Ob := .eq (((if (a1 : Int) < a0.1 then a0.1 else a1) : Int) == 0) false
theorem C189 (a0 : Int × Int × Int) (a1 : Int) (a2 : Int) : Con Tryz.prog 189 [(.a (k3 a0)), (iv a1), (iv a2)] [] (.t [(.a (k2 (F189 a0 a1 a2).1)), (iv (F189 a0 a1 a2).2)]) [] := by
  cases h0 : (decide ((a2 : Int) ≤ a0.1)) with
  | true =>
    have q0 := of_decide_eq_true h0
    have e : (F189 a0 a1 a2) = ((0, 0), 0) := by simp only [F189, h0, cond_true, cond_false]
    rw [e]
    refine con_of (n := 9) Tryz.func189 rfl (ent Tryz.func189 (by kernel_rfl) rfl) (by show 3 ≤ Tryz.f189.ntmps; decide) (by kernel_rfl) trivial (fun cx hcx => ?_)
    exact ret_of (T := T0) hT hm (f := 5000) (orc := [.d true]) [] [] [] hcx
      (obs := [.eq (decide ((a2 : Int) ≤ a0.1)) true]) (by kernel_rfl) ⟨h0, trivial⟩
  | false =>
    cases h1 : (decide ((a1 : Int) > a0.2.1)) with
    | true =>
      have q0 := of_decide_eq_false h0
      have q1 := of_decide_eq_true h1
      have e : (F189 a0 a1 a2) = ((0, 0), 0) := by simp only [F189, h0, h1, cond_true, cond_false]
      rw [e]
      refine con_of (n := 9) Tryz.func189 rfl (ent Tryz.func189 (by kernel_rfl) rfl) (by show 3 ≤ Tryz.f189.ntmps; decide) (by kernel_rfl) trivial (fun cx hcx => ?_)
      exact ret_of (T := T0) hT hm (f := 5000) (orc := [.d false, .d true]) [] [] [] hcx
        (obs := [.eq (decide ((a2 : Int) ≤ a0.1)) false, .eq (decide ((a1 : Int) > a0.2.1)) true]) (by kernel_rfl) ⟨h0, h1, trivial⟩
    | false =>
      cases h2 : (decide ((a1 : Int) > a0.1)) with
      | true =>
        cases h3 : (((if (a1 : Int) < a0.1 then a0.1 else a1) : Int) == 0) with
        | true =>
          have q0 := of_decide_eq_false h0
          have q1 := of_decide_eq_false h1
          have q2 := of_decide_eq_true h2
          have q3 := eq_of_beq h3
          have e : (F189 a0 a1 a2) = ((0, 0), 10) := by simp only [F189, h0, h1, h2, h3, cond_true, cond_false]
          rw [e]
          refine con_of (n := 9) Tryz.func189 rfl (ent Tryz.func189 (by kernel_rfl) rfl) (by show 3 ≤ Tryz.f189.ntmps; decide) (by kernel_rfl) trivial (fun cx hcx => ?_)
          exact ret_of (T := T0) hT hm (f := 5000) (orc := [.d false, .d false, .d true, .d true]) [] [] [] hcx
            (obs := [.eq (decide ((a2 : Int) ≤ a0.1)) false, .eq (decide ((a1 : Int) > a0.2.1)) false, .eq (decide ((a1 : Int) > a0.1)) true, .eq (((if (a1 : Int) < a0.1 then a0.1 else a1) : Int) == 0) true]) (by kernel_rfl) ⟨h0, h1, h2, h3, trivial⟩
        | false =>
          cases h4 : (((F130 (if (a1 : Int) < a0.1 then a0.1 else a1) a0.2.2).2 : Int) != 0) with
          | true =>
            have q0 := of_decide_eq_false h0
            have q1 := of_decide_eq_false h1
            have q2 := of_decide_eq_true h2
            have q3 := ne_of_beq_false h3
            have q4 := bne_iff_ne.1 h4
            obtain ⟨u0, hu0⟩ : ∃ u, u = (F130 (if (a1 : Int) < a0.1 then a0.1 else a1) a0.2.2) := ⟨_, rfl⟩
            have e : (F189 a0 a1 a2) = ((0, u0.1.2), u0.2) := by subst hu0; simp only [F189, h0, h1, h2, h3, h4, cond_true, cond_false]
            rw [e]
            refine con_of (n := 9) Tryz.func189 rfl (ent Tryz.func189 (by kernel_rfl) rfl) (by show 3 ≤ Tryz.f189.ntmps; decide) (by kernel_rfl) trivial (fun cx hcx => ?_)
            exact ret_of (T := T0) hT hm (f := 5000) (orc := [.d false, .d false, .d true, .d false, .call [] (.t [(.a [(iv u0.1.1), (iv u0.1.2)]), (iv u0.2)]) [], .d true]) [] [] [] hcx
              (obs := [.eq (decide ((a2 : Int) ≤ a0.1)) false, .eq (decide ((a1 : Int) > a0.2.1)) false, .eq (decide ((a1 : Int) > a0.1)) true, (oC189_0 a0 a1), .call 130 [(iv (if (a1 : Int) < a0.1 then a0.1 else a1)), (iv a0.2.2)] [] (.t [(.a [(iv u0.1.1), (iv u0.1.2)]), (iv u0.2)]) [], .eq ((u0.2 : Int) != 0) true]) (by kernel_rfl) (by subst hu0; exact ⟨h0, h1, h2, h3, (C130 (if (a1 : Int) < a0.1 then a0.1 else a1) a0.2.2), h4, trivial⟩)
          | false =>
            cases h5 : (!(decide ((a2 : Int) ≤ a0.2.1))) with
            | true =>
              have q0 := of_decide_eq_false h0
              have q1 := of_decide_eq_false h1
              have q2 := of_decide_eq_true h2
              have q3 := ne_of_beq_false h3
              have q4 := bne_eq_false_iff_eq.1 h4
              obtain ⟨u0, hu0⟩ : ∃ u, u = (F130 (if (a1 : Int) < a0.1 then a0.1 else a1) a0.2.2) := ⟨_, rfl⟩
              have e : (F189 a0 a1 a2) = ((0, u0.1.2), u0.2) := by subst hu0; simp only [F189, h0, h1, h2, h3, h4, h5, cond_true, cond_false]
              rw [e]
              refine con_of (n := 9) Tryz.func189 rfl (ent Tryz.func189 (by kernel_rfl) rfl) (by show 3 ≤ Tryz.f189.ntmps; decide) (by kernel_rfl) trivial (fun cx hcx => ?_)
              exact ret_of (T := T0) hT hm (f := 5000) (orc := [.d false, .d false, .d true, .d false, .call [] (.t [(.a [(iv u0.1.1), (iv u0.1.2)]), (iv u0.2)]) [], .d false, .d true]) [] [] [] hcx
                (obs := [.eq (decide ((a2 : Int) ≤ a0.1)) false, .eq (decide ((a1 : Int) > a0.2.1)) false, .eq (decide ((a1 : Int) > a0.1)) true, (oC189_0 a0 a1), .call 130 [(iv (if (a1 : Int) < a0.1 then a0.1 else a1)), (iv a0.2.2)] [] (.t [(.a [(iv u0.1.1), (iv u0.1.2)]), (iv u0.2)]) [], .eq ((u0.2 : Int) != 0) false, .eq (!(decide ((a2 : Int) ≤ a0.2.1))) true]) (by kernel_rfl) (by subst hu0; exact ⟨h0, h1, h2, h3, (C130 (if (a1 : Int) < a0.1 then a0.1 else a1) a0.2.2), h4, h5, trivial⟩)
            | false =>
              have q0 := of_decide_eq_false h0
              have q1 := of_decide_eq_false h1
              have q2 := of_decide_eq_true h2
              have q3 := ne_of_beq_false h3
              have q4 := bne_eq_false_iff_eq.1 h4
              obtain ⟨u0, hu0⟩ : ∃ u, u = (F130 (if (a1 : Int) < a0.1 then a0.1 else a1) a0.2.2) := ⟨_, rfl⟩
              obtain ⟨u1, hu1⟩ : ∃ u, u = (F130 a2 a0.2.2) := ⟨_, rfl⟩
              have e : (F189 a0 a1 a2) = ((u1.1.1, u0.1.2), u1.2) := by subst hu1; subst hu0; simp only [F189, h0, h1, h2, h3, h4, h5, cond_true, cond_false]
              rw [e]
              refine con_of (n := 9) Tryz.func189 rfl (ent Tryz.func189 (by kernel_rfl) rfl) (by show 3 ≤ Tryz.f189.ntmps; decide) (by kernel_rfl) trivial (fun cx hcx => ?_)
              exact ret_of (T := T0) hT hm (f := 5000) (orc := [.d false, .d false, .d true, .d false, .call [] (.t [(.a [(iv u0.1.1), (iv u0.1.2)]), (iv u0.2)]) [], .d false, .d false, .call [] (.t [(.a [(iv u1.1.1), (iv u1.1.2)]), (iv u1.2)]) []]) [] [] [] hcx
                (obs := [.eq (decide ((a2 : Int) ≤ a0.1)) false, .eq (decide ((a1 : Int) > a0.2.1)) false, .eq (decide ((a1 : Int) > a0.1)) true, (oC189_0 a0 a1), .call 130 [(iv (if (a1 : Int) < a0.1 then a0.1 else a1)), (iv a0.2.2)] [] (.t [(.a [(iv u0.1.1), (iv u0.1.2)]), (iv u0.2)]) [], .eq ((u0.2 : Int) != 0) false, .eq (!(decide ((a2 : Int) ≤ a0.2.1))) false, .call 130 [(iv a2), (iv a0.2.2)] [] (.t [(.a [(iv u1.1.1), (iv u1.1.2)]), (iv u1.2)]) []]) (by kernel_rfl) (by subst hu1; subst hu0; exact ⟨h0, h1, h2, h3, (C130 (if (a1 : Int) < a0.1 then a0.1 else a1) a0.2.2), h4, h5, (C130 a2 a0.2.2), trivial⟩)
      | false =>
        cases h3 : (((if (a1 : Int) < a0.1 then a0.1 else a1) : Int) == 0) with
        | true =>
          have q0 := of_decide_eq_false h0
          have q1 := of_decide_eq_false h1
          have q2 := of_decide_eq_false h2
          have q3 := eq_of_beq h3
          have e : (F189 a0 a1 a2) = ((0, 0), 10) := by simp only [F189, h0, h1, h2, h3, cond_true, cond_false]
          rw [e]
          refine con_of (n := 9) Tryz.func189 rfl (ent Tryz.func189 (by kernel_rfl) rfl) (by show 3 ≤ Tryz.f189.ntmps; decide) (by kernel_rfl) trivial (fun cx hcx => ?_)
          exact ret_of (T := T0) hT hm (f := 5000) (orc := [.d false, .d false, .d false, .d true]) [] [] [] hcx
            (obs := [.eq (decide ((a2 : Int) ≤ a0.1)) false, .eq (decide ((a1 : Int) > a0.2.1)) false, .eq (decide ((a1 : Int) > a0.1)) false, .eq (((if (a1 : Int) < a0.1 then a0.1 else a1) : Int) == 0) true]) (by kernel_rfl) ⟨h0, h1, h2, h3, trivial⟩
        | false =>
          cases h4 : (((F130 (if (a1 : Int) < a0.1 then a0.1 else a1) a0.2.2).2 : Int) != 0) with
          | true =>
            have q0 := of_decide_eq_false h0
            have q1 := of_decide_eq_false h1
            have q2 := of_decide_eq_false h2
            have q3 := ne_of_beq_false h3
            have q4 := bne_iff_ne.1 h4
            obtain ⟨u0, hu0⟩ : ∃ u, u = (F130 (if (a1 : Int) < a0.1 then a0.1 else a1) a0.2.2) := ⟨_, rfl⟩
            have e : (F189 a0 a1 a2) = ((0, u0.1.2), u0.2) := by subst hu0; simp only [F189, h0, h1, h2, h3, h4, cond_true, cond_false]
            rw [e]
            refine con_of (n := 9) Tryz.func189 rfl (ent Tryz.func189 (by kernel_rfl) rfl) (by show 3 ≤ Tryz.f189.ntmps; decide) (by kernel_rfl) trivial (fun cx hcx => ?_)
            exact ret_of (T := T0) hT hm (f := 5000) (orc := [.d false, .d false, .d false, .d false, .call [] (.t [(.a [(iv u0.1.1), (iv u0.1.2)]), (iv u0.2)]) [], .d true]) [] [] [] hcx
              (obs := [.eq (decide ((a2 : Int) ≤ a0.1)) false, .eq (decide ((a1 : Int) > a0.2.1)) false, .eq (decide ((a1 : Int) > a0.1)) false, (oC189_0 a0 a1), .call 130 [(iv (if (a1 : Int) < a0.1 then a0.1 else a1)), (iv a0.2.2)] [] (.t [(.a [(iv u0.1.1), (iv u0.1.2)]), (iv u0.2)]) [], .eq ((u0.2 : Int) != 0) true]) (by kernel_rfl) (by subst hu0; exact ⟨h0, h1, h2, h3, (C130 (if (a1 : Int) < a0.1 then a0.1 else a1) a0.2.2), h4, trivial⟩)
          | false =>
            have q0 := of_decide_eq_false h0
            have q1 := of_decide_eq_false h1
            have q2 := of_decide_eq_false h2
            have q3 := ne_of_beq_false h3
            have q4 := bne_eq_false_iff_eq.1 h4
            obtain ⟨u0, hu0⟩ : ∃ u, u = (F130 (if (a1 : Int) < a0.1 then a0.1 else a1) a0.2.2) := ⟨_, rfl⟩
            have e : (F189 a0 a1 a2) = ((0, u0.1.2), u0.2) := by subst hu0; simp only [F189, h0, h1, h2, h3, h4, cond_true, cond_false]
            rw [e]
            refine con_of (n := 9) Tryz.func189 rfl (ent Tryz.func189 (by kernel_rfl) rfl) (by show 3 ≤ Tryz.f189.ntmps; decide) (by kernel_rfl) trivial (fun cx hcx => ?_)
            exact ret_of (T := T0) hT hm (f := 5000) (orc := [.d false, .d false, .d false, .d false, .call [] (.t [(.a [(iv u0.1.1), (iv u0.1.2)]), (iv u0.2)]) [], .d false]) [] [] [] hcx
              (obs := [.eq (decide ((a2 : Int) ≤ a0.1)) false, .eq (decide ((a1 : Int) > a0.2.1)) false, .eq (decide ((a1 : Int) > a0.1)) false, (oC189_0 a0 a1), .call 130 [(iv (if (a1 : Int) < a0.1 then a0.1 else a1)), (iv a0.2.2)] [] (.t [(.a [(iv u0.1.1), (iv u0.1.2)]), (iv u0.2)]) [], .eq ((u0.2 : Int) != 0) false]) (by kernel_rfl) (by subst hu0; exact ⟨h0, h1, h2, h3, (C130 (if (a1 : Int) < a0.1 then a0.1 else a1) a0.2.2), h4, trivial⟩)

/-- facet/facetref08.share -/
def F193 (a0 : (Int × Int × Int) × (Int × Int × Int) × Int × Int × Int) (a1 : Int × Int × Int) (a2 : Int) (a3 : Int) (a4 : Int) : (Int × Int) × Int :=
  (bif (decide (((F230 a0 a1) : Int) ≤ a2)) then
   ((0, 0), 0)
  else
   (bif (decide (((F231 a0 a1) : Int) > a3)) then
    ((0, 0), 0)
   else
    (bif (((if ((F231 a0 a1) : Int) < a2 then a2 else (F231 a0 a1)) : Int) == 0) then
     ((0, 0), 10)
    else
     (bif (((F202 (if ((F231 a0 a1) : Int) < a2 then a2 else (F231 a0 a1)) a4).2 : Int) != 0) then
      ((0, (F202 (if ((F231 a0 a1) : Int) < a2 then a2 else (F231 a0 a1)) a4).1.2), (F202 (if ((F231 a0 a1) : Int) < a2 then a2 else (F231 a0 a1)) a4).2)
     else
      (bif (decide (((F231 a0 a1) : Int) ≤ a2)) then
       ((0, (F202 (if ((F231 a0 a1) : Int) < a2 then a2 else (F231 a0 a1)) a4).1.2), (F202 (if ((F231 a0 a1) : Int) < a2 then a2 else (F231 a0 a1)) a4).2)
      else
       (bif (decide (((F230 a0 a1) : Int) > a3)) then
        ((0, (F202 (if ((F231 a0 a1) : Int) < a2 then a2 else (F231 a0 a1)) a4).1.2), (F202 (if ((F231 a0 a1) : Int) < a2 then a2 else (F231 a0 a1)) a4).2)
       else
        (((F202 (F230 a0 a1) a4).1.1, (F202 (if ((F231 a0 a1) : Int) < a2 then a2 else (F231 a0 a1)) a4).1.2), (F202 (F230 a0 a1) a4).2)))))))

theorem C193 (a0 : (Int × Int × Int) × (Int × Int × Int) × Int × Int × Int) (a1 : Int × Int × Int) (a2 : Int) (a3 : Int) (a4 : Int) : Con Tryz.prog 193 [(.a (k9 a0)), (.a (k3 a1)), (iv a2), (iv a3), (iv a4)] [] (.t [(.a (k2 (F193 a0 a1 a2 a3 a4).1)), (iv (F193 a0 a1 a2 a3 a4).2)]) [] := by
  cases h0 : (decide (((F230 a0 a1) : Int) ≤ a2)) with
  | true =>
    have q0 := of_decide_eq_true h0
    obtain ⟨u0, hu0⟩ : ∃ u, u = (F230 a0 a1) := ⟨_, rfl⟩
    obtain ⟨u1, hu1⟩ : ∃ u, u = (F231 a0 a1) := ⟨_, rfl⟩
    have e : (F193 a0 a1 a2 a3 a4) = ((0, 0), 0) := by subst hu1; subst hu0; simp only [F193, h0, cond_true, cond_false]
    rw [e]
    refine con_of (n := 9) Tryz.func193 rfl (ent Tryz.func193 (by kernel_rfl) rfl) (by show 5 ≤ Tryz.f193.ntmps; decide) (by kernel_rfl) trivial (fun cx hcx => ?_)
    exact ret_of (T := T0) hT hm (f := 5000) (orc := [.call [] (iv u0) [], .call [] (iv u1) [], .d true]) [] [] [] hcx
      (obs := [.call 230 [(.a (k9 a0)), (.a (k3 a1))] [] (iv u0) [], .call 231 [(.a (k9 a0)), (.a (k3 a1))] [] (iv u1) [], .eq (decide ((u0 : Int) ≤ a2)) true]) (by kernel_rfl) (by subst hu1; subst hu0; exact ⟨(C230 a0 a1), (C231 a0 a1), h0, trivial⟩)
  | false =>
    cases h1 : (decide (((F231 a0 a1) : Int) > a3)) with
    | true =>
      have q0 := of_decide_eq_false h0
      have q1 := of_decide_eq_true h1
      obtain ⟨u0, hu0⟩ : ∃ u, u = (F230 a0 a1) := ⟨_, rfl⟩
      obtain ⟨u1, hu1⟩ : ∃ u, u = (F231 a0 a1) := ⟨_, rfl⟩
      have e : (F193 a0 a1 a2 a3 a4) = ((0, 0), 0) := by subst hu1; subst hu0; simp only [F193, h0, h1, cond_true, cond_false]
      rw [e]
      refine con_of (n := 9) Tryz.func193 rfl (ent Tryz.func193 (by kernel_rfl) rfl) (by show 5 ≤ Tryz.f193.ntmps; decide) (by kernel_rfl) trivial (fun cx hcx => ?_)
      exact ret_of (T := T0) hT hm (f := 5000) (orc := [.call [] (iv u0) [], .call [] (iv u1) [], .d false, .d true]) [] [] [] hcx
        (obs := [.call 230 [(.a (k9 a0)), (.a (k3 a1))] [] (iv u0) [], .call 231 [(.a (k9 a0)), (.a (k3 a1))] [] (iv u1) [], .eq (decide ((u0 : Int) ≤ a2)) false, .eq (decide ((u1 : Int) > a3)) true]) (by kernel_rfl) (by subst hu1; subst hu0; exact ⟨(C230 a0 a1), (C231 a0 a1), h0, h1, trivial⟩)
    | false =>
      cases h2 : (((if ((F231 a0 a1) : Int) < a2 then a2 else (F231 a0 a1)) : Int) == 0) with
      | true =>
        have q0 := of_decide_eq_false h0
        have q1 := of_decide_eq_false h1
        have q2 := eq_of_beq h2
        obtain ⟨u0, hu0⟩ : ∃ u, u = (F230 a0 a1) := ⟨_, rfl⟩
        obtain ⟨u1, hu1⟩ : ∃ u, u = (F231 a0 a1) := ⟨_, rfl⟩
        have e : (F193 a0 a1 a2 a3 a4) = ((0, 0), 10) := by subst hu1; subst hu0; simp only [F193, h0, h1, h2, cond_true, cond_false]
        rw [e]
        refine con_of (n := 9) Tryz.func193 rfl (ent Tryz.func193 (by kernel_rfl) rfl) (by show 5 ≤ Tryz.f193.ntmps; decide) (by kernel_rfl) trivial (fun cx hcx => ?_)
        exact ret_of (T := T0) hT hm (f := 5000) (orc := [.call [] (iv u0) [], .call [] (iv u1) [], .d false, .d false, .d true]) [] [] [] hcx
          (obs := [.call 230 [(.a (k9 a0)), (.a (k3 a1))] [] (iv u0) [], .call 231 [(.a (k9 a0)), (.a (k3 a1))] [] (iv u1) [], .eq (decide ((u0 : Int) ≤ a2)) false, .eq (decide ((u1 : Int) > a3)) false, .eq (((if (u1 : Int) < a2 then a2 else u1) : Int) == 0) true]) (by kernel_rfl) (by subst hu1; subst hu0; exact ⟨(C230 a0 a1), (C231 a0 a1), h0, h1, h2, trivial⟩)
      | false =>
        cases h3 : (((F202 (if ((F231 a0 a1) : Int) < a2 then a2 else (F231 a0 a1)) a4).2 : Int) != 0) with
        | true =>
          have q0 := of_decide_eq_false h0
          have q1 := of_decide_eq_false h1
          have q2 := ne_of_beq_false h2
          have q3 := bne_iff_ne.1 h3
          obtain ⟨u0, hu0⟩ : ∃ u, u = (F230 a0 a1) := ⟨_, rfl⟩
          obtain ⟨u1, hu1⟩ : ∃ u, u = (F231 a0 a1) := ⟨_, rfl⟩
          obtain ⟨u2, hu2⟩ : ∃ u, u = (F202 (if (u1 : Int) < a2 then a2 else u1) a4) := ⟨_, rfl⟩
          have e : (F193 a0 a1 a2 a3 a4) = ((0, u2.1.2), u2.2) := by subst hu2; subst hu1; subst hu0; simp only [F193, h0, h1, h2, h3, cond_true, cond_false]
          rw [e]
          refine con_of (n := 9) Tryz.func193 rfl (ent Tryz.func193 (by kernel_rfl) rfl) (by show 5 ≤ Tryz.f193.ntmps; decide) (by kernel_rfl) trivial (fun cx hcx => ?_)
          exact ret_of (T := T0) hT hm (f := 5000) (orc := [.call [] (iv u0) [], .call [] (iv u1) [], .d false, .d false, .d false, .call [] (.t [(.a [(iv u2.1.1), (iv u2.1.2)]), (iv u2.2)]) [], .d true]) [] [] [] hcx
            (obs := [.call 230 [(.a (k9 a0)), (.a (k3 a1))] [] (iv u0) [], .call 231 [(.a (k9 a0)), (.a (k3 a1))] [] (iv u1) [], .eq (decide ((u0 : Int) ≤ a2)) false, .eq (decide ((u1 : Int) > a3)) false, .eq (((if (u1 : Int) < a2 then a2 else u1) : Int) == 0) false, .call 202 [(iv (if (u1 : Int) < a2 then a2 else u1)), (iv a4)] [] (.t [(.a [(iv u2.1.1), (iv u2.1.2)]), (iv u2.2)]) [], .eq ((u2.2 : Int) != 0) true]) (by kernel_rfl) (by subst hu2; subst hu1; subst hu0; exact ⟨(C230 a0 a1), (C231 a0 a1), h0, h1, h2, (C202 (if ((F231 a0 a1) : Int) < a2 then a2 else (F231 a0 a1)) a4), h3, trivial⟩)
        | false =>
          cases h4 : (decide (((F231 a0 a1) : Int) ≤ a2)) with
          | true =>
            have q0 := of_decide_eq_false h0
            have q1 := of_decide_eq_false h1
            have q2 := ne_of_beq_false h2
            have q3 := bne_eq_false_iff_eq.1 h3
            have q4 := of_decide_eq_true h4
            obtain ⟨u0, hu0⟩ : ∃ u, u = (F230 a0 a1) := ⟨_, rfl⟩
            obtain ⟨u1, hu1⟩ : ∃ u, u = (F231 a0 a1) := ⟨_, rfl⟩
            obtain ⟨u2, hu2⟩ : ∃ u, u = (F202 (if (u1 : Int) < a2 then a2 else u1) a4) := ⟨_, rfl⟩
            have e : (F193 a0 a1 a2 a3 a4) = ((0, u2.1.2), u2.2) := by subst hu2; subst hu1; subst hu0; simp only [F193, h0, h1, h2, h3, h4, cond_true, cond_false]
            rw [e]
            refine con_of (n := 9) Tryz.func193 rfl (ent Tryz.func193 (by kernel_rfl) rfl) (by show 5 ≤ Tryz.f193.ntmps; decide) (by kernel_rfl) trivial (fun cx hcx => ?_)
            exact ret_of (T := T0) hT hm (f := 5000) (orc := [.call [] (iv u0) [], .call [] (iv u1) [], .d false, .d false, .d false, .call [] (.t [(.a [(iv u2.1.1), (iv u2.1.2)]), (iv u2.2)]) [], .d false, .d true]) [] [] [] hcx
              (obs := [.call 230 [(.a (k9 a0)), (.a (k3 a1))] [] (iv u0) [], .call 231 [(.a (k9 a0)), (.a (k3 a1))] [] (iv u1) [], .eq (decide ((u0 : Int) ≤ a2)) false, .eq (decide ((u1 : Int) > a3)) false, .eq (((if (u1 : Int) < a2 then a2 else u1) : Int) == 0) false, .call 202 [(iv (if (u1 : Int) < a2 then a2 else u1)), (iv a4)] [] (.t [(.a [(iv u2.1.1), (iv u2.1.2)]), (iv u2.2)]) [], .eq ((u2.2 : Int) != 0) false, .eq (decide ((u1 : Int) ≤ a2)) true]) (by kernel_rfl) (by subst hu2; subst hu1; subst hu0; exact ⟨(C230 a0 a1), (C231 a0 a1), h0, h1, h2, (C202 (if ((F231 a0 a1) : Int) < a2 then a2 else (F231 a0 a1)) a4), h3, h4, trivial⟩)
          | false =>
            cases h5 : (decide (((F230 a0 a1) : Int) > a3)) with
            | true =>
              have q0 := of_decide_eq_false h0
              have q1 := of_decide_eq_false h1
              have q2 := ne_of_beq_false h2
              have q3 := bne_eq_false_iff_eq.1 h3
              have q4 := of_decide_eq_false h4
              have q5 := of_decide_eq_true h5
              obtain ⟨u0, hu0⟩ : ∃ u, u = (F230 a0 a1) := ⟨_, rfl⟩
              obtain ⟨u1, hu1⟩ : ∃ u, u = (F231 a0 a1) := ⟨_, rfl⟩
              obtain ⟨u2, hu2⟩ : ∃ u, u = (F202 (if (u1 : Int) < a2 then a2 else u1) a4) := ⟨_, rfl⟩
              have e : (F193 a0 a1 a2 a3 a4) = ((0, u2.1.2), u2.2) := by subst hu2; subst hu1; subst hu0; simp only [F193, h0, h1, h2, h3, h4, h5, cond_true, cond_false]
              rw [e]
              refine con_of (n := 9) Tryz.func193 rfl (ent Tryz.func193 (by kernel_rfl) rfl) (by show 5 ≤ Tryz.f193.ntmps; decide) (by kernel_rfl) trivial (fun cx hcx => ?_)
              exact ret_of (T := T0) hT hm (f := 5000) (orc := [.call [] (iv u0) [], .call [] (iv u1) [], .d false, .d false, .d false, .call [] (.t [(.a [(iv u2.1.1), (iv u2.1.2)]), (iv u2.2)]) [], .d false, .d false, .d true]) [] [] [] hcx
                (obs := [.call 230 [(.a (k9 a0)), (.a (k3 a1))] [] (iv u0) [], .call 231 [(.a (k9 a0)), (.a (k3 a1))] [] (iv u1) [], .eq (decide ((u0 : Int) ≤ a2)) false, .eq (decide ((u1 : Int) > a3)) false, .eq (((if (u1 : Int) < a2 then a2 else u1) : Int) == 0) false, .call 202 [(iv (if (u1 : Int) < a2 then a2 else u1)), (iv a4)] [] (.t [(.a [(iv u2.1.1), (iv u2.1.2)]), (iv u2.2)]) [], .eq ((u2.2 : Int) != 0) false, .eq (decide ((u1 : Int) ≤ a2)) false, .eq (decide ((u0 : Int) > a3)) true]) (by kernel_rfl) (by subst hu2; subst hu1; subst hu0; exact ⟨(C230 a0 a1), (C231 a0 a1), h0, h1, h2, (C202 (if ((F231 a0 a1) : Int) < a2 then a2 else (F231 a0 a1)) a4), h3, h4, h5, trivial⟩)
            | false =>
              have q0 := of_decide_eq_false h0
              have q1 := of_decide_eq_false h1
              have q2 := ne_of_beq_false h2
              have q3 := bne_eq_false_iff_eq.1 h3
              have q4 := of_decide_eq_false h4
              have q5 := of_decide_eq_false h5
              obtain ⟨u0, hu0⟩ : ∃ u, u = (F230 a0 a1) := ⟨_, rfl⟩
              obtain ⟨u1, hu1⟩ : ∃ u, u = (F231 a0 a1) := ⟨_, rfl⟩
              obtain ⟨u2, hu2⟩ : ∃ u, u = (F202 (if (u1 : Int) < a2 then a2 else u1) a4) := ⟨_, rfl⟩
              obtain ⟨u3, hu3⟩ : ∃ u, u = (F202 u0 a4) := ⟨_, rfl⟩
              have e : (F193 a0 a1 a2 a3 a4) = ((u3.1.1, u2.1.2), u3.2) := by subst hu3; subst hu2; subst hu1; subst hu0; simp only [F193, h0, h1, h2, h3, h4, h5, cond_true, cond_false]
              rw [e]
              refine con_of (n := 9) Tryz.func193 rfl (ent Tryz.func193 (by kernel_rfl) rfl) (by show 5 ≤ Tryz.f193.ntmps; decide) (by kernel_rfl) trivial (fun cx hcx => ?_)
              exact ret_of (T := T0) hT hm (f := 5000) (orc := [.call [] (iv u0) [], .call [] (iv u1) [], .d false, .d false, .d false, .call [] (.t [(.a [(iv u2.1.1), (iv u2.1.2)]), (iv u2.2)]) [], .d false, .d false, .d false, .call [] (.t [(.a [(iv u3.1.1), (iv u3.1.2)]), (iv u3.2)]) []]) [] [] [] hcx
                (obs := [.call 230 [(.a (k9 a0)), (.a (k3 a1))] [] (iv u0) [], .call 231 [(.a (k9 a0)), (.a (k3 a1))] [] (iv u1) [], .eq (decide ((u0 : Int) ≤ a2)) false, .eq (decide ((u1 : Int) > a3)) false, .eq (((if (u1 : Int) < a2 then a2 else u1) : Int) == 0) false, .call 202 [(iv (if (u1 : Int) < a2 then a2 else u1)), (iv a4)] [] (.t [(.a [(iv u2.1.1), (iv u2.1.2)]), (iv u2.2)]) [], .eq ((u2.2 : Int) != 0) false, .eq (decide ((u1 : Int) ≤ a2)) false, .eq (decide ((u0 : Int) > a3)) false, .call 202 [(iv u0), (iv a4)] [] (.t [(.a [(iv u3.1.1), (iv u3.1.2)]), (iv u3.2)]) []]) (by kernel_rfl) (by subst hu3; subst hu2; subst hu1; subst hu0; exact ⟨(C230 a0 a1), (C231 a0 a1), h0, h1, h2, (C202 (if ((F231 a0 a1) : Int) < a2 then a2 else (F231 a0 a1)) a4), h3, h4, h5, (C202 (F230 a0 a1) a4), trivial⟩)

end Go.Proofs.YtnkeljlllagddaaGreat
