/-
  Parts of the proofs of the laws: the executor, what functions of the program compute, and that it is what the statements ask. No premise.
-/
import Derived.Test.YtnbpiejjeeomkaaGreatVPdn3
import Derived.ProofKit
import Derived.OpenShut
import Derived.Deep.Slices
import Derived.RowKit
import Derived.Shelf.SlSortCmp.Xorshift
namespace Go.Proofs.YtnbpiejjeeomkaaGreat
open Go.Proofs Go.Aw Go.RowKit
set_option maxRecDepth 100000
set_option linter.unusedVariables false
set_option linter.unusedSimpArgs false

/-! ### From the contract to the row -/
open Go.ChangeShapes Go.WideShapes Go.ChangeAt
def contB (P : Program) (ok : TypeId → Bool) (n : Nat) : List Field → Nat → Bool
  | [], o => o == n
  | f :: l, o => f.offset == o && ok f.type && contB P ok n l (o + P.cellsOf f.type)
def flatB (P : Program) : Nat → TypeId → Bool
  | 0, _ => false
  | k + 1, t => match P.underlying t with
    | some (.int .i64) => true
    | some (.struct fs) => contB P (flatB P k) (P.cellsOf t) fs.toList 0
    | some (.array n e) => flatB P k e && P.cellsOf t == n * P.cellsOf e
    | _ => false
section
variable {H : Type} {enc : TypeId × Value → H} {P : Program} {w : World} {base : Nat} {spare : Nat → Bool} {held : Bool}
theorem cont_trod {ok : TypeId → Bool} {n fuel : Nat} {cs : List Value}
    (hok : ∀ t cs x, ok t = true → DataW.trod enc P w base spare held fuel t cs = some x → x.2 = [] ∧ ∃ ns : List Int, cs = ns.map (Value.int .i64)) (hn : cs.length = n) :
    ∀ (l : List Field) (o : Nat) (ys : List (DataW H × List MemPlace)), contB P ok n l o = true → ys.length = l.length →
      (∀ (j : Nat) (f : Field), l[j]? = some f → DataW.trod enc P w base spare held fuel f.type ((cs.drop f.offset).take (P.cellsOf f.type)) = ys[j]?) →
      (∀ y ∈ ys, y.2 = []) ∧ ∃ ns : List Int, cs.drop o = ns.map (Value.int .i64)
  | [], o, ys, hc, hl, _ => by
    have : ys = [] := List.length_eq_zero_iff.1 hl
    subst this
    simp only [contB, beq_iff_eq] at hc
    exact ⟨fun y hy => by simp at hy, [], by rw [hc, ← hn, List.drop_length]; rfl⟩
  | f :: l, o, ys, hc, hl, hf => by
    cases ys with
    | nil => simp at hl
    | cons y ys =>
      simp only [contB, Bool.and_eq_true, beq_iff_eq] at hc
      obtain ⟨⟨h1, h2⟩, h3⟩ := hc
      have g0 := hf 0 f rfl
      rw [h1] at g0
      obtain ⟨e1, n1, e2⟩ := hok f.type _ y h2 g0
      obtain ⟨e3, n2, e4⟩ := cont_trod hok hn l _ ys h3 (by simpa using hl) (fun j g hg => hf (j + 1) g hg)
      refine ⟨fun z hz => ?_, n1 ++ n2, ?_⟩
      · rcases List.mem_cons.1 hz with rfl | hz
        · exact e1
        · exact e3 z hz
      · rw [List.map_append, ← e2, ← e4, ← List.drop_drop, List.take_append_drop]
theorem flat_trod : ∀ (k : Nat) (t : TypeId) (fuel : Nat) (cs : List Value) (x : DataW H × List MemPlace), flatB P k t = true → DataW.trod enc P w base spare held fuel t cs = some x →
    x.2 = [] ∧ ∃ ns : List Int, cs = ns.map (Value.int .i64)
  | 0, _, _, _, _, h, _ => by simp [flatB] at h
  | k + 1, t, fuel, cs, x, h, hx => by
    unfold flatB at h
    split at h
    · rename_i ht
      obtain ⟨n, rfl, rfl, _⟩ := DataW.trod_int ht hx
      exact ⟨rfl, [n], rfl⟩
    · rename_i fs ht
      obtain ⟨xs, m, rfl, rfl, hl, hlen, hf⟩ := DataW.trod_struct ht hx
      obtain ⟨e1, ns, e2⟩ := cont_trod (fun t cs x h hx => flat_trod k t m cs x h hx) hl fs.toList 0 xs h (by simpa using hlen) (fun j f hj => hf j f (by simpa using hj))
      refine ⟨?_, ns, by simpa using e2⟩
      simp only
      induction xs with
      | nil => rfl
      | cons y l _ => rw [List.flatMap_eq_nil_iff]; exact e1
    · rename_i n e ht
      simp only [Bool.and_eq_true, beq_iff_eq] at h
      obtain ⟨xs, m, rfl, rfl, hl, hlen, hf⟩ := DataW.trod_array ht hx
      have hi : ∀ i, i < n → ∃ y, xs[i]? = some y ∧ y.2 = [] ∧ ∃ ns : List Int, (cs.drop (i * P.cellsOf e)).take (P.cellsOf e) = ns.map (Value.int .i64) := fun i hi => by
        have h1 := hf i hi
        have hil : i < xs.length := by rw [hlen]; exact hi
        rw [List.getElem?_eq_getElem hil] at h1
        obtain ⟨e1, e2⟩ := flat_trod k e m _ _ h.1 h1
        exact ⟨_, List.getElem?_eq_getElem hil, e1, e2⟩
      refine ⟨?_, ?_⟩
      · simp only
        rw [List.flatMap_eq_nil_iff]
        intro y hy
        obtain ⟨i, hy⟩ := List.getElem?_of_mem hy
        have hil := (List.getElem?_eq_some_iff.1 hy).1
        obtain ⟨y', h1, h2, _⟩ := hi i (by rw [← hlen]; exact hil)
        rw [h1] at hy
        exact Option.some.inj hy ▸ h2
      · have key : ∀ j, j ≤ n → ∃ ns : List Int, cs.drop ((n - j) * P.cellsOf e) = ns.map (Value.int .i64) := by
          intro j
          induction j with
          | zero => intro _; exact ⟨[], by rw [Nat.sub_zero, ← h.2, ← hl, List.drop_length]; rfl⟩
          | succ j ih =>
            intro hj
            obtain ⟨n2, h2⟩ := ih (by omega)
            obtain ⟨_, _, _, n1, h1⟩ := hi (n - (j + 1)) (by omega)
            refine ⟨n1 ++ n2, ?_⟩
            rw [List.map_append, ← h1, ← h2, show (n - j) * P.cellsOf e = (n - (j + 1)) * P.cellsOf e + P.cellsOf e by rw [show n - j = (n - (j + 1)) + 1 by omega, Nat.add_mul, Nat.one_mul], ← List.drop_drop, List.take_append_drop]
        obtain ⟨ns, hns⟩ := key n (Nat.le_refl _)
        exact ⟨ns, by simpa using hns⟩
    · cases h
end
theorem rels_iv {ρ : Env} : ∀ ns : List Int, Rels ρ (ns.map iv) (ns.map (Value.int .i64))
  | [] => trivial
  | n :: l => ⟨rfl, rels_iv l⟩
theorem post_below {H : Type} {enc : TypeId × Value → H} {P : Program} {f : Func} {s : ChangeSpec} {apart fresh handsOn : Bool} {W W' : World} {args : Array Value} {v : Value} {ds gs : List (DataW H)} {before : List MemPlace}
    (hW : DataW.Whole enc P f.params.toList s.vars apart W args.toList ds gs before) (hb : Below W.heap.size W W')
    (hres : ∀ (b : Nat) (sp : Nat → Bool) (hd : Bool), DataW.TrodAll enc P W' b sp hd f.resultTypes.toList (v.resultList f.resultTypes.size) (s.fn H (ds ++ gs)).results [])
    (hargs : DataW.TrodAll enc P W' 0 (fun b => decide (b < W.heap.size)) true f.params.toList args.toList (s.fn H (ds ++ gs)).args before)
    (hvars : DataW.TrodVars enc P W' (fun b => decide (b < W.heap.size)) s.vars (s.fn H (ds ++ gs)).vars []) :
    s.post enc P f apart fresh handsOn false W args v W' :=
  ⟨ds, gs, before, [], before, [], hW, hres _ _ _, hargs, hvars, hb.frame _, fun h => by cases h⟩
theorem all_mk {H : Type} {enc : TypeId × Value → H} {P : Program} {w : World} {base : Nat} {spare : Nat → Bool} {held : Bool} {t : TypeId} {ts : List TypeId} {v : Value} {vs : List Value} {d : DataW H} {ds : List (DataW H)} {p p' : List MemPlace}
    (h : DataW.Trod enc P w base spare held t v d p) (h' : DataW.TrodAll enc P w base spare held ts vs ds p') : DataW.TrodAll enc P w base spare held (t :: ts) (v :: vs) (d :: ds) (p ++ p') := ⟨p, p', h, h', rfl⟩
theorem own : ownKnob Tryz.prog.godebug = none := by kernel_rfl
theorem laidOut : laidOutB Tryz.prog = true := by kernel_rfl

end Go.Proofs.YtnbpiejjeeomkaaGreat

namespace Go.Proofs.YtnbpiejjeeomkaaGreat
open Go.Proofs Go.Aw Go.RowKit
set_option maxRecDepth 100000
set_option linter.unusedVariables false
set_option linter.unusedSimpArgs false

/-! ### Scales -/
def sc (d : Int) : Int := if d = 0 then 1 else if d = 1 then 2 else if d = 2 then 4 else 8
theorem d4 {d : Int} (h : 0 ≤ d ∧ d ≤ 3) : d = 0 ∨ d = 1 ∨ d = 2 ∨ d = 3 := by omega
theorem sc_f {d : Int} (h : 0 ≤ d ∧ d ≤ 3) : W (1 * 2 ^ (min (Int.toNat d) 64)) = sc d := by
  rcases d4 h with rfl | rfl | rfl | rfl <;> kernel_rfl
theorem sc_r {d : Int} (h : 0 ≤ d ∧ d ≤ 3) : W (1 * 2 ^ (min (Int.toNat (IntKind.wrap .u64 d)) 64)) = sc d := by
  rcases d4 h with rfl | rfl | rfl | rfl <;> kernel_rfl
theorem cnt_f {d : Int} (h : 0 ≤ d ∧ d ≤ 3) : W (1 * 2 ^ (min (Int.toNat (W (2 * d))) 64)) = sc d * sc d := by
  rcases d4 h with rfl | rfl | rfl | rfl <;> kernel_rfl
theorem cnt_len {d : Int} (h : 0 ≤ d ∧ d ≤ 3) (p : PN) : (((cutL d.toNat p).length : Nat) : Int) = sc d * sc d := by
  rw [cutL_len]; rcases d4 h with rfl | rfl | rfl | rfl <;> kernel_rfl
theorem sc_in (d : Int) : sc d = 1 ∨ sc d = 2 ∨ sc d = 4 ∨ sc d = 8 := by unfold sc; (repeat' split) <;> simp
theorem sc_bd (d : Int) : 1 ≤ sc d ∧ sc d ≤ 8 := by have := sc_in d; omega
def tm (s : Int) (p : P3) : P3 := (s * p.1, s * p.2.1, s * p.2.2)
theorem bd_tm {s m : Int} {p : P3} (hs : 1 ≤ s ∧ s ≤ 8) (hm : 0 ≤ m) (hp : bd m p) : bd (8 * m) (tm s p) := by
  have h1 := mul_bd (a := 8) (b := m) (x := s) (y := p.1) (by omega) hp.1
  have h2 := mul_bd (a := 8) (b := m) (x := s) (y := p.2.1) (by omega) hp.2.1
  have h3 := mul_bd (a := 8) (b := m) (x := s) (y := p.2.2) (by omega) hp.2.2
  exact ⟨h1, h2, h3⟩
theorem tm_W {s : Int} {p : P3} (hs : 1 ≤ s ∧ s ≤ 8) (hp : bd 4096 p) : ((W (s * p.1)), (W (s * p.2.1)), (W (s * p.2.2))) = tm s p := by
  have h := bd_tm hs (by omega) hp
  have h1 := h.1; have h2 := h.2.1; have h3 := h.2.2
  simp only [tm] at h1 h2 h3
  unfold tm
  rw [W_eq (n := s * p.1) (by omega) (by omega), W_eq (n := s * p.2.1) (by omega) (by omega), W_eq (n := s * p.2.2) (by omega) (by omega)]
theorem tm_f {s : Int} {p : P3} (hs : 1 ≤ s ∧ s ≤ 8) (hp : bd 4096 p) : F85 p s = tm s p := tm_W hs hp
theorem tm_r {s : Int} {p : P3} (hs : 1 ≤ s ∧ s ≤ 8) (hp : bd 4096 p) : F90 p s = tm s p := tm_W hs hp
/-! ### Spans of numbers that are small -/
theorem res_f {a b : Int} (h1 : -1099511627776 ≤ a) (h2 : a ≤ b) (h3 : b ≤ 1099511627776) : F113 a b = ((a, b), 0) := by
  unfold F113 F76
  rw [decide_eq_true (show (a, b).1 ≥ -1099511627776 from h1), decide_eq_true (show (a, b).1 ≤ (a, b).2 from h2), decide_eq_true (show (a, b).2 ≤ 1099511627776 from h3)]; rfl
theorem res_r {a b : Int} (h1 : -1099511627776 ≤ a) (h2 : a ≤ b) (h3 : b ≤ 1099511627776) : F125 a b = ((a, b), 0) := by
  unfold F125 F80
  rw [decide_eq_true (show (a, b).1 ≥ -1099511627776 from h1), decide_eq_true (show (a, b).1 ≤ (a, b).2 from h2), decide_eq_true (show (a, b).2 ≤ 1099511627776 from h3)]; rfl
/-! ### Roots of quotients -/
theorem rt_eq {n : Int} (h0 : 0 ≤ n) (h : n < 4611686018427387904) : F232 n = F229 n := (rtRef h0 h).eq (rtSpan h0 h)
noncomputable def inv (N n : Int) : Int × Int :=
  (F229 (N / n), if F229 (N / n) * F229 (N / n) * n = N then F229 (N / n) else F229 (N / n) + 1)
theorem quo_bd {N n : Int} (hN : 0 ≤ N) (hn : 1 ≤ n) : 0 ≤ N / n ∧ N / n ≤ N ∧ (N / n) * n ≤ N := by
  have h1 : 0 ≤ N / n := Int.ediv_nonneg hN (by omega)
  have h2 : (N / n) * n ≤ N := Int.ediv_mul_le N (by omega)
  have h3 : (N / n) * 1 ≤ (N / n) * n := Int.mul_le_mul_of_nonneg_left hn h1
  omega
theorem inv_facts {N n : Int} (hN : 0 ≤ N ∧ N ≤ 288230376151711744) (hn : 1 ≤ n) :
    ∃ k, F229 (N / n) = k ∧ IsRt (N / n) k ∧ 0 ≤ k ∧ k ≤ 536870912 ∧ 0 ≤ k * k ∧ k * k ≤ N / n ∧ 0 ≤ k * k * n ∧ k * k * n ≤ N := by
  obtain ⟨h1, h2, h3⟩ := quo_bd hN.1 hn
  have h := rtSpan (n := N / n) h1 (by omega)
  have h4 := h.le (m := 536870912) (by omega) (by omega)
  have h5 : 0 ≤ F229 (N / n) * F229 (N / n) := Int.mul_nonneg h.1 h.1
  exact ⟨_, rfl, h, h.1, h4, h5, h.2.1, Int.mul_nonneg h5 (by omega), Int.le_trans (Int.mul_le_mul_of_nonneg_right h.2.1 (by omega)) h3⟩
theorem inv_f {N n : Int} (hN : 0 ≤ N ∧ N ≤ 288230376151711744) (hn : 1 ≤ n) : F196 N n = (inv N n, 0) := by
  obtain ⟨k, hk, _, k0, k1, k2, k3, k4, k5⟩ := inv_facts hN hn
  obtain ⟨h1, h2, h3⟩ := quo_bd hN.1 hn
  unfold F196 inv
  rw [Int.tdiv_eq_ediv_of_nonneg hN.1, W_eq (n := N / n) (by omega) (by omega), hk, W_eq (n := k * k) (by omega) (by omega), W_eq (n := k * k * n) (by omega) (by omega), W_eq (n := k + 1) (by omega) (by omega),
    res_f (by omega) (Int.le_refl k) (by omega), res_f (by omega) (by omega) (by omega)]
  by_cases h : k * k * n = N
  · rw [if_pos h, beq_iff_eq.2 h]; rfl
  · rw [if_neg h, beq_eq_false_iff_ne.2 h]; rfl
theorem inv_r {N n : Int} (hN : 0 ≤ N ∧ N ≤ 288230376151711744) (hn : 1 ≤ n) : F206 N n = (inv N n, 0) := by
  obtain ⟨k, hk, _, k0, k1, k2, k3, k4, k5⟩ := inv_facts hN hn
  obtain ⟨h1, h2, h3⟩ := quo_bd hN.1 hn
  unfold F206 inv
  rw [Int.tdiv_eq_ediv_of_nonneg hN.1, W_eq (n := N / n) (by omega) (by omega), rt_eq h1 (by omega), hk, W_eq (n := k * k) (by omega) (by omega), W_eq (n := k + 1) (by omega) (by omega),
    res_r (by omega) (Int.le_refl k) (by omega), res_r (by omega) (by omega) (by omega), Int.tmod_eq_emod_of_nonneg hN.1]
  have hdm : n * (N / n) + N % n = N := Int.mul_ediv_add_emod N n
  by_cases h0 : N % n = 0
  · rw [beq_iff_eq.2 h0, cond_true]
    by_cases h : k * k = N / n
    · rw [beq_iff_eq.2 h, cond_true, if_pos (by rw [h, Int.mul_comm]; omega)]
    · rw [beq_eq_false_iff_ne.2 h, cond_false, if_neg]
      intro h'
      rw [h0, Int.add_zero, Int.mul_comm] at hdm
      exact h (Int.eq_of_mul_eq_mul_right (by omega) (h'.trans hdm.symm))
  · rw [beq_eq_false_iff_ne.2 h0, cond_false, if_neg]
    intro h'
    rw [← h'] at h0
    exact h0 (Int.mul_emod_left _ _)
theorem inv_bd {N n : Int} (hN : 0 ≤ N ∧ N ≤ 288230376151711744) (hn : 1 ≤ n) : 0 ≤ (inv N n).1 ∧ (inv N n).1 ≤ (inv N n).2 ∧ (inv N n).2 ≤ 536870913 := by
  obtain ⟨k, hk, _, k0, k1, _⟩ := inv_facts hN hn
  unfold inv
  rw [hk]
  simp only
  split <;> omega
theorem inv_mono {N n m : Int} (hN : 0 ≤ N ∧ N ≤ 288230376151711744) (hn : 1 ≤ n) (hm : n ≤ m) : (inv N m).1 ≤ (inv N n).1 := by
  obtain ⟨h1, h2, h3⟩ := quo_bd hN.1 hn
  obtain ⟨g1, g2, g3⟩ := quo_bd (n := m) hN.1 (by omega)
  have h : N / m ≤ N / n := by
    refine Int.le_ediv_of_mul_le (by omega) (Int.le_trans (Int.mul_le_mul_of_nonneg_left hm g1) g3)
  exact (rtSpan g1 (by omega)).mono (rtSpan h1 (by omega)) h
def NN (s : Int) : Int := s * s * 1099511627776
theorem NN_bd {s : Int} (h : s = 1 ∨ s = 2 ∨ s = 4 ∨ s = 8) : 0 ≤ NN s ∧ NN s ≤ 288230376151711744 := by rcases h with rfl | rfl | rfl | rfl <;> decide
noncomputable def of1 (s n : Int) : Int × Int := if n < 1 then (0, 0) else inv (NN s) n
theorem lt8f {s : Int} (h : s = 1 ∨ s = 2 ∨ s = 4 ∨ s = 8) : decide (s < 1) = false ∧ decide (s > 8) = false := by
  rcases h with rfl | rfl | rfl | rfl <;> decide
theorem lt8 {s : Int} (h : s = 1 ∨ s = 2 ∨ s = 4 ∨ s = 8) : decide (s < 1) = false ∧ decide (s > 8) = false ∧ F124 s 1 8 = true := by
  rcases h with rfl | rfl | rfl | rfl <;> decide
theorem one_f {s n : Int} (hs : s = 1 ∨ s = 2 ∨ s = 4 ∨ s = 8) (hn : n ≤ 1000000000) : (F137 n s).1 = of1 s n := by
  obtain ⟨e1, e2⟩ := lt8f hs
  unfold F137 of1
  by_cases h : n < 1
  · rw [decide_eq_true h, cond_true, if_pos h]
  · have e : W ((W (s * s)) * 2 ^ (min (Int.toNat 40) 64)) = NN s := by rcases hs with rfl | rfl | rfl | rfl <;> kernel_rfl
    rw [decide_eq_false h, cond_false, decide_eq_false (show ¬ n > 1099511627776 by omega), cond_false, e1, cond_false, e2, cond_false, if_neg h, e, inv_f (NN_bd hs) (by omega)]
theorem one_r {s n : Int} (hs : s = 1 ∨ s = 2 ∨ s = 4 ∨ s = 8) (hn : n ≤ 1000000000) : (F145 n s).1 = of1 s n := by
  obtain ⟨_, _, e3⟩ := lt8 hs
  unfold F145 of1
  by_cases h : n < 1
  · rw [within_eq1, decide_eq_false (show ¬ (1 ≤ n ∧ n ≤ 1099511627776) by omega), if_pos h]; rfl
  · have e : W ((W ((W (1048576 * s)) * 1048576)) * s) = NN s := by rcases hs with rfl | rfl | rfl | rfl <;> kernel_rfl
    rw [e3, within_eq1, decide_eq_true (show (1 ≤ n ∧ n ≤ 1099511627776) by omega), if_neg h, e, inv_r (NN_bd hs) (by omega)]; rfl
structure OfOk (of : Int → Int × Int) : Prop where
  lo : ∀ n, 0 ≤ (of n).1
  le : ∀ n, (of n).1 ≤ (of n).2
  hi : ∀ n, (of n).2 ≤ 536870913
  mono : ∀ n m, 1 ≤ n → n ≤ m → (of m).1 ≤ (of n).1
theorem of1_ok {s : Int} (hs : s = 1 ∨ s = 2 ∨ s = 4 ∨ s = 8) : OfOk (of1 s) := by
  have hb : ∀ n, 0 ≤ (of1 s n).1 ∧ (of1 s n).1 ≤ (of1 s n).2 ∧ (of1 s n).2 ≤ 536870913 := by
    intro n
    unfold of1
    split
    · simp
    · exact inv_bd (NN_bd hs) (by omega)
  refine ⟨fun n => (hb n).1, fun n => (hb n).2.1, fun n => (hb n).2.2, fun n m h1 h2 => ?_⟩
  unfold of1
  rw [if_neg (by omega), if_neg (by omega)]
  exact inv_mono (NN_bd hs) h1 h2
end Go.Proofs.YtnbpiejjeeomkaaGreat

namespace Go.Proofs.YtnbpiejjeeomkaaGreat
open Go.Proofs Go.Aw Go.RowKit
set_option maxRecDepth 100000
set_option linter.unusedVariables false
set_option linter.unusedSimpArgs false

/-! ### The mean -/
def fa (c : PN) (x : P3) : Int := mx (mx (mx 0 (ds c.1 x)) (ds c.2.1 x)) (ds c.2.2 x)
def ne (c : PN) (x : P3) : Int := nr (blo c) (bhi c) x x
theorem ds_bd {p q : P3} (hp : bd 5000 p) (hq : bd 5000 q) : 0 ≤ ds p q ∧ ds p q ≤ 300000000 := by
  have h := bd_sb hp hq
  have := dt_bd h h
  exact ⟨dt_self _, by unfold ds; omega⟩
theorem sq_le {a b : Int} (ha : 0 ≤ a) (h : a ≤ b ∨ a ≤ -b) : a * a ≤ b * b := by
  rcases h with h | h
  · exact Int.mul_le_mul h h ha (by omega)
  · have := Int.mul_le_mul h h ha (by omega)
    rwa [Int.neg_mul_neg] at this
theorem nr_nn (a b c d : P3) : 0 ≤ nr a b c d := by
  have h1 := sq_nn (gp a.1 b.1 c.1 d.1); have h2 := sq_nn (gp a.2.1 b.2.1 c.2.1 d.2.1); have h3 := sq_nn (gp a.2.2 b.2.2 c.2.2 d.2.2)
  unfold nr; omega
noncomputable def acc (of : Int → Int × Int) (x : P3) : List PN → Int × Int → (Int × Int) ⊕ ((Int × Int) × Int)
  | [], v => .inl v
  | c :: l, v => if ne c x = 0 then .inr ((0, 0), 10) else acc of x l (v.1 + (of (fa c x)).1, v.2 + (of (ne c x)).2)
def okv (v : Int × Int) (n : Nat) : Prop := 0 ≤ v.1 ∧ v.1 ≤ v.2 ∧ v.2 + 536870913 * n ≤ 34359738432
/-! division by small numbers -/
theorem dn_f {a n : Int} (hn : n = 1 ∨ n = 4 ∨ n = 16 ∨ n = 64) (ha : -1099511627776 ≤ a ∧ a ≤ 1099511627776) : F230 a n = a / n := by
  unfold F230
  have h0 : ∀ b : Int, decide (n < 0) = false := fun _ => decide_eq_false (by omega)
  rw [h0 0]
  have key : (bif ((Int.tmod a n : Int) != 0) then (bif (!(decide (a < 0) == false)) then W (W (Int.tdiv a n) - 1) else W (Int.tdiv a n)) else W (Int.tdiv a n)) = if Int.tmod a n ≠ 0 ∧ a < 0 then W (W (Int.tdiv a n) - 1) else W (Int.tdiv a n) := by
    by_cases h1 : Int.tmod a n = 0
    · rw [h1]; simp
    · by_cases h2 : a < 0
      · rw [bne_iff_ne.2 h1, decide_eq_true h2, if_pos ⟨h1, h2⟩]; rfl
      · rw [bne_iff_ne.2 h1, decide_eq_false h2, if_neg (fun h => h2 h.2)]; rfl
  rw [key]
  rcases Int.lt_or_le a 0 with h | h
  · obtain ⟨b, rfl⟩ : ∃ b : Int, a = -b := ⟨-a, by omega⟩
    have hb : 0 ≤ b := by omega
    rw [Int.neg_tdiv, Int.neg_tmod, Int.tdiv_eq_ediv_of_nonneg hb, Int.tmod_eq_emod_of_nonneg hb]
    rcases hn with rfl | rfl | rfl | rfl <;>
    · rw [W_eq (n := -(b / _)) (by omega) (by omega)]
      split
      · rw [W_eq (by omega) (by omega)]; omega
      · omega
  · rw [if_neg (by omega), Int.tdiv_eq_ediv_of_nonneg h]
    rcases hn with rfl | rfl | rfl | rfl <;> exact W_eq (by omega) (by omega)
theorem dn_r {a n : Int} (hn : n = 1 ∨ n = 4 ∨ n = 16 ∨ n = 64) (ha : -1099511627776 ≤ a ∧ a ≤ 1099511627776) : F148 a n = a / n := by
  unfold F148
  rcases Int.lt_or_le a 0 with h | h
  · obtain ⟨b, rfl⟩ : ∃ b : Int, a = -b := ⟨-a, by omega⟩
    have hb : 0 ≤ b := by omega
    rw [Int.neg_tdiv, Int.neg_tmod, Int.tdiv_eq_ediv_of_nonneg hb, Int.tmod_eq_emod_of_nonneg hb]
    by_cases h1 : -(b % n) < (0 : Int)
    · rw [decide_eq_true h1, cond_true]
      rcases hn with rfl | rfl | rfl | rfl <;>
      · rw [W_eq (n := -(b / _)) (by omega) (by omega), W_eq (by omega) (by omega)]; omega
    · rw [decide_eq_false h1, cond_false]
      rcases hn with rfl | rfl | rfl | rfl <;>
      · rw [W_eq (n := -(b / _)) (by omega) (by omega)]; omega
  · rw [Int.tdiv_eq_ediv_of_nonneg h, Int.tmod_eq_emod_of_nonneg h]
    have : ¬ a % n < 0 := by have := Int.emod_nonneg a (show n ≠ 0 by omega); omega
    rw [decide_eq_false this, cond_false]
    rcases hn with rfl | rfl | rfl | rfl <;> exact W_eq (by omega) (by omega)
theorem up_f {a n : Int} (hn : n = 1 ∨ n = 4 ∨ n = 16 ∨ n = 64) (ha : -1099511627776 ≤ a ∧ a ≤ 1099511627776) : F231 a n = -(-a / n) := by
  unfold F231
  rw [W_eq (n := 0 - a) (by omega) (by omega), dn_f hn (by omega), Int.zero_sub]
  rcases hn with rfl | rfl | rfl | rfl <;> exact (W_eq (by omega) (by omega)).trans (by omega)
theorem up_r {a n : Int} (hn : n = 1 ∨ n = 4 ∨ n = 16 ∨ n = 64) (ha : -1099511627776 ≤ a ∧ a ≤ 1099511627776) : F149 a n = -(-a / n) := by
  unfold F149
  rw [W_eq (n := 0 - a) (by omega) (by omega), dn_r hn (by omega), Int.zero_sub]
  rcases hn with rfl | rfl | rfl | rfl <;> exact (W_eq (by omega) (by omega)).trans (by omega)
def avg (v : Int × Int) (n : Int) : Int × Int := (v.1 / n, -(-v.2 / n))
theorem val_f {a b : Int} (h1 : -1099511627776 ≤ a) (h2 : a ≤ b) (h3 : b ≤ 1099511627776) : F76 (a, b) = true := by
  unfold F76
  rw [decide_eq_true (show (a, b).1 ≥ -1099511627776 from h1), decide_eq_true (show (a, b).1 ≤ (a, b).2 from h2), decide_eq_true (show (a, b).2 ≤ 1099511627776 from h3)]; rfl
theorem avg_f {v : Int × Int} {n : Int} (hn : n = 1 ∨ n = 4 ∨ n = 16 ∨ n = 64) (h : okv v 0) : F140 v.1 v.2 n = avg v n := by
  unfold okv at h
  unfold F140 F199 F150_1
  rw [val_f (by omega) (by omega) (by omega)]
  simp only [Bool.not_true, cond_false, bne_self_eq_false]
  rw [decide_eq_false (show ¬ n < 1 by omega), decide_eq_false (show ¬ n > 1099511627776 by omega), cond_false, cond_false, dn_f hn (by omega), up_f hn (by omega)]
  have : v.1 / n ≤ -(-v.2 / n) ∧ -1099511627776 ≤ v.1 / n ∧ -(-v.2 / n) ≤ 1099511627776 := by
    rcases hn with rfl | rfl | rfl | rfl <;> omega
  rw [res_f this.2.1 this.1 this.2.2]; rfl
theorem cnt_in (d : Int) : sc d * sc d = 1 ∨ sc d * sc d = 4 ∨ sc d * sc d = 16 ∨ sc d * sc d = 64 := by
  rcases sc_in d with h | h | h | h <;> rw [h] <;> decide

end Go.Proofs.YtnbpiejjeeomkaaGreat

namespace Go.Proofs.YtnbpiejjeeomkaaGreat
open Go.Proofs Go.Aw Go.RowKit
set_option maxRecDepth 100000
set_option linter.unusedVariables false
set_option linter.unusedSimpArgs false

/-! ### The program's mean is the reference's -/
theorem cutL_in {p c : PN} {d : Int} (hp : bdP 64 p) (hd : 0 ≤ d ∧ d ≤ 3) (hc : c ∈ cutL d.toNat p) : bdP 512 c := by
  have key : ∀ k : Nat, k ≤ 3 → c ∈ cutL k p → bdP 512 c := by
    intro k hk hc
    have : k = 0 ∨ k = 1 ∨ k = 2 ∨ k = 3 := by omega
    rcases this with rfl | rfl | rfl | rfl <;> exact (cutL_bd (m := 64) _ hp (by decide) (by decide) hc).mono (by decide)
  exact key _ (by omega) hc
theorem okv_0 {p : PN} {d : Int} (hd : 0 ≤ d ∧ d ≤ 3) : okv (0, 0) (cutL d.toNat p).length := by
  have h := cnt_len hd p
  have h1 := cnt_in d
  unfold okv; simp only; omega
section
variable {p : PN} {x : P3} {d : Int}
end
end Go.Proofs.YtnbpiejjeeomkaaGreat

namespace Go.Proofs.YtnbpiejjeeomkaaGreat
open Go.Proofs Go.Aw Go.RowKit
set_option maxRecDepth 100000
set_option linter.unusedVariables false
set_option linter.unusedSimpArgs false

/-! ### The rim -/
def IsUp (T r : Int) : Prop := 0 ≤ r ∧ T ≤ r * r ∧ (r = 0 ∨ (r - 1) * (r - 1) < T)
theorem IsUp.le {T r m : Int} (h : IsUp T r) (hm : 0 ≤ m) (h' : T ≤ m * m) : r ≤ m := by
  rcases Int.lt_or_le m r with hlt | hle
  · rcases h.2.2 with h0 | h0
    · omega
    · have := Int.mul_le_mul (show m ≤ r - 1 by omega) (show m ≤ r - 1 by omega) hm (by omega)
      omega
  · exact hle
theorem IsUp.eq {T a b : Int} (h : IsUp T a) (h' : IsUp T b) : a = b := Int.le_antisymm (h.le h'.1 h'.2.1) (h'.le h.1 h.2.1)
theorem least_spec {T : Int} {S : Int × Int → (Int × Int) ⊕ Int} (hS : ∀ a b, 0 ≤ a → a < b → b ≤ 268435456 → S (a, b) = if T ≤ ((a + b) / 2) * ((a + b) / 2) then .inl (a, (a + b) / 2) else .inl ((a + b) / 2 + 1, b)) (h0 : ∀ a, S (a, a) = .inr a) :
    ∀ (f : Nat) (a b : Int), 0 ≤ a → a ≤ b → b ≤ 268435456 → b - a < f → T ≤ b * b → (a = 0 ∨ (a - 1) * (a - 1) < T) → IsUp T (loopF S f (a, b)) := by
  intro f
  induction f with
  | zero => intro a b _ h _ hf; omega
  | succ f ih =>
    intro a b ha hab hb hf h1 h2
    by_cases he : a = b
    · subst he
      rw [loopF_inr (h0 a)]; exact ⟨ha, h1, h2⟩
    · have hs := hS a b ha (by omega) hb
      by_cases hc : T ≤ ((a + b) / 2) * ((a + b) / 2)
      · rw [if_pos hc] at hs
        rw [loopF_inl hs]
        exact ih _ _ ha (by omega) (by omega) (by omega) hc h2
      · rw [if_neg hc] at hs
        rw [loopF_inl hs]
        refine ih _ _ (by omega) (by omega) hb (by omega) h1 (Or.inr ?_)
        rw [show (a + b) / 2 + 1 - 1 = (a + b) / 2 by omega]; omega
def top (d : Int) : Int := 3537128906555392 * (sc d * sc d)
theorem top_f {d : Int} (h : 0 ≤ d ∧ d ≤ 3) : W (3537128906555392 * 2 ^ (min (Int.toNat (W (2 * d))) 64)) = top d := by
  rcases d4 h with rfl | rfl | rfl | rfl <;> kernel_rfl
theorem top_r {d : Int} (h : 0 ≤ d ∧ d ≤ 3) : W ((W ((W (1099511627776 * (W (1 * 2 ^ (min (Int.toNat (IntKind.wrap .u64 d)) 64))))) * (W (1 * 2 ^ (min (Int.toNat (IntKind.wrap .u64 d)) 64))))) * 3217) = top d := by
  rcases d4 h with rfl | rfl | rfl | rfl <;> kernel_rfl
theorem top_bd (d : Int) : 3537128906555392 ≤ top d ∧ top d ≤ 226376250019545088 := by
  unfold top; have := cnt_in d; omega
def cq (t b : Int) : Int := -(-t / b)
theorem cq_facts {t b : Int} (hb : 1 ≤ b) : t ≤ cq t b * b ∧ (cq t b - 1) * b < t := by
  have h1 := Int.mul_ediv_add_emod (-t) b
  have h2 := Int.emod_nonneg (-t) (show b ≠ 0 by omega)
  have h3 := Int.emod_lt_of_pos (-t) (show 0 < b by omega)
  unfold cq
  have e : -(-t / b) * b = -(b * (-t / b)) := by rw [Int.neg_mul, Int.mul_comm]
  have e2 : (-(-t / b) - 1) * b = -(b * (-t / b)) - b := by rw [Int.sub_mul, e, Int.one_mul]
  omega
theorem dn_any {a n : Int} (hn : 1 ≤ n) (ha : -1152921504606846976 ≤ a ∧ a ≤ 1152921504606846976) : F148 a n = a / n := by
  unfold F148
  rcases Int.lt_or_le a 0 with h | h
  · obtain ⟨b, rfl⟩ : ∃ b : Int, a = -b := ⟨-a, by omega⟩
    have hb : 0 ≤ b := by omega
    obtain ⟨h1, h2, _⟩ := quo_bd hb hn
    have hd := Int.mul_ediv_add_emod b n
    have hm0 := Int.emod_nonneg b (show n ≠ 0 by omega)
    have hm1 := Int.emod_lt_of_pos b (show 0 < n by omega)
    rw [Int.neg_tdiv, Int.neg_tmod, Int.tdiv_eq_ediv_of_nonneg hb, Int.tmod_eq_emod_of_nonneg hb, W_eq (n := -(b / n)) (by omega) (by omega)]
    by_cases h3 : -(b % n) < (0 : Int)
    · rw [decide_eq_true h3, cond_true, W_eq (by omega) (by omega)]
      refine (((Int.ediv_emod_unique (a := -b) (b := n) (q := -(b / n) - 1) (r := n - b % n) (by omega)).2 ⟨?_, by omega, by omega⟩).1).symm
      rw [Int.mul_sub, Int.mul_neg, Int.mul_one]; omega
    · rw [decide_eq_false h3, cond_false]
      refine (((Int.ediv_emod_unique (a := -b) (b := n) (q := -(b / n)) (r := 0) (by omega)).2 ⟨?_, by omega, by omega⟩).1).symm
      rw [Int.mul_neg]; omega
  · rw [Int.tdiv_eq_ediv_of_nonneg h, Int.tmod_eq_emod_of_nonneg h]
    have := Int.emod_nonneg a (show n ≠ 0 by omega)
    rw [decide_eq_false (by omega), cond_false]
    obtain ⟨h1, h2, _⟩ := quo_bd h hn
    exact W_eq (by omega) (by omega)
theorem up_any {a n : Int} (hn : 1 ≤ n) (ha : 0 ≤ a ∧ a ≤ 1152921504606846976) : F149 a n = cq a n := by
  unfold F149 cq
  have h1 := cq_facts (t := a) hn
  rw [W_eq (n := 0 - a) (by omega) (by omega), dn_any hn (by omega), Int.zero_sub, Int.zero_sub]
  have h2 : 0 ≤ cq a n := by
    rcases Int.lt_or_le (cq a n) 0 with h | h
    · have := Int.mul_le_mul_of_nonneg_right (show cq a n ≤ -1 by omega) (show 0 ≤ n by omega); omega
    · exact h
  have h3 : cq a n ≤ a + 1 := by
    rcases Int.lt_or_le (a + 1) (cq a n) with h | h
    · have := Int.mul_le_mul_of_nonneg_left hn (show 0 ≤ cq a n - 1 by omega); omega
    · exact h
  unfold cq at h2 h3
  exact W_eq (by omega) (by omega)
theorem rim_spec {p : PN} {d : Int} (hp : vp p = 0) (hd : 0 ≤ d ∧ d ≤ 3) :
    ∃ r, IsRt (dt (nrm p) (nrm p)) r ∧ 1 ≤ r ∧ r ≤ 56755 ∧ IsUp (cq (top d) (128 * r)) (F134 p d) ∧ F134 p d ≤ 67108864 := by
  obtain ⟨r, e, hr, r1, r2⟩ := rt_rim hp
  have ht := top_bd d
  obtain ⟨q1, q2, q3⟩ := quo_bd (N := top d) (n := 128 * r) (by omega) (by omega)
  have hqb : top d / (128 * r) ≤ 1768564453277696 := by
    rcases Int.lt_or_le 1768564453277696 (top d / (128 * r)) with h | h
    · have := Int.mul_le_mul_of_nonneg_left (show 128 ≤ 128 * r by omega) q1; omega
    · exact h
  have hk := rtField (n := top d / (128 * r)) q1 (by omega)
  have hkb := hk.le (m := 42054304) (by omega) (by omega)
  obtain ⟨u1, u2⟩ := cq_facts (t := top d) (b := 128 * r) (by omega)
  have hm := Int.mul_ediv_add_emod (top d) (128 * r)
  have hm1 := Int.emod_lt_of_pos (top d) (show 0 < 128 * r by omega)
  refine ⟨r, hr, r1, r2, ?_⟩
  unfold F134
  rw [e, W_eq (n := 128 * r) (by omega) (by omega), top_f hd, Int.tdiv_eq_ediv_of_nonneg (by omega), W_eq (n := top d / (128 * r)) (by omega) (by omega)]
  generalize F191 (top d / (128 * r)) = k at *
  have k0 := hk.1; have k1 := hk.2.1; have k2 := hk.2.2
  have k3 : 0 ≤ k * k := Int.mul_nonneg k0 k0
  have k4 : k * k * (128 * r) ≤ top d / (128 * r) * (128 * r) := Int.mul_le_mul_of_nonneg_right k1 (by omega)
  have k5 : 0 ≤ k * k * (128 * r) := Int.mul_nonneg k3 (by omega)
  rw [W_eq (n := k * k) (by omega) (by omega), W_eq (n := k * k * (128 * r)) (by omega) (by omega), W_eq (n := k + 1) (by omega) (by omega)]
  generalize top d / (128 * r) = q at *
  generalize cq (top d) (128 * r) = T at *
  have hb : 0 < 128 * r := by omega
  generalize 128 * r = b at *
  have hqT : q ≤ T := Int.le_of_mul_le_mul_right (Int.le_trans q3 u1) hb
  have hTq : T ≤ q + 1 := by
    have : (T - 1) * b < (q + 1) * b := by rw [Int.add_mul, Int.mul_comm q b]; omega
    have := Int.lt_of_mul_lt_mul_right this (by omega); omega
  by_cases h : k * k * b < top d
  · rw [decide_eq_true h, cond_true]
    refine ⟨⟨by omega, by omega, Or.inr ?_⟩, by omega⟩
    rw [show k + 1 - 1 = k by omega]
    exact Int.lt_of_mul_lt_mul_right (Int.lt_of_lt_of_le h u1) (by omega)
  · rw [decide_eq_false h, cond_false]
    refine ⟨⟨k0, ?_, ?_⟩, by omega⟩
    · have : (T - 1) * b < k * k * b := by omega
      have := Int.lt_of_mul_lt_mul_right this (by omega); omega
    · rcases Int.lt_or_le 0 k with h0 | h0
      · right
        have : (k - 1) * (k - 1) ≤ (k - 1) * k := Int.mul_le_mul_of_nonneg_left (by omega) (by omega)
        have e : (k - 1) * k = k * k - k := by rw [Int.sub_mul, Int.one_mul]
        omega
      · left; omega
theorem rim_eq {p : PN} {d : Int} (hp : vp p = 0) (hd : 0 ≤ d ∧ d ≤ 3) : F144 p d = F134 p d := by
  obtain ⟨r, hr, r1, r2, hu, hb⟩ := rim_spec hp hd
  obtain ⟨hb', hd'⟩ := vp_ok hp
  obtain ⟨hn, hn2⟩ := nn_bd hb'
  have ht := top_bd d
  have er : F204 (F205 (F142 p) (F142 p)) = r := by
    rw [nrm_r hb', rdt (hn.mono (by omega)) (hn.mono (by omega))]
    exact (rtRef (n := dt (nrm p) (nrm p)) (by omega) (by omega)).eq hr
  obtain ⟨u1, u2⟩ := cq_facts (t := top d) (b := 128 * r) (by omega)
  have hT : cq (top d) (128 * r) ≤ 1768564453277697 := by
    rcases Int.lt_or_le 1768564453277697 (cq (top d) (128 * r)) with h | h
    · have := Int.mul_le_mul_of_nonneg_left (show 128 ≤ 128 * r by omega) (show 0 ≤ cq (top d) (128 * r) - 1 by omega); omega
    · exact h
  refine IsUp.eq ?_ hu
  unfold F144
  refine least_spec (T := cq (top d) (128 * r)) (fun a b ha hab hb => ?_) (fun a => ?_) _ 0 268435456 (by omega) (by omega) (by omega) (by decide) (by omega) (Or.inl rfl)
  · have h2 : decide (a < b) = true := decide_eq_true hab
    have hq := sq_bd (a := (a + b) / 2) (by omega) (by omega)
    simp only [S144_0]
    rw [h2, cond_true, top_r hd, er, W_eq (n := 128 * r) (by omega) (by omega), up_any (by omega) (by omega), mid3_eq (by omega), mid0_eq (by omega), W_eq (n := (a + b) / 2 * ((a + b) / 2)) (by omega) (by omega)]
    by_cases hc : cq (top d) (128 * r) ≤ (a + b) / 2 * ((a + b) / 2)
    · rw [decide_eq_true (show (a + b) / 2 * ((a + b) / 2) ≥ cq (top d) (128 * r) from hc), if_pos hc]; rfl
    · rw [decide_eq_false (show ¬ (a + b) / 2 * ((a + b) / 2) ≥ cq (top d) (128 * r) from hc), if_neg hc]; rfl
  · simp [S144_0]
end Go.Proofs.YtnbpiejjeeomkaaGreat

namespace Go.Proofs.YtnbpiejjeeomkaaGreat
open Go.Proofs Go.Aw Go.RowKit
set_option maxRecDepth 100000
set_option linter.unusedVariables false
set_option linter.unusedSimpArgs false

/-! ### Between -/
def fa3 (c q : PN) : Int := mx (mx (mx (mx (mx (mx (mx (mx (mx 0 (ds c.1 q.1)) (ds c.1 q.2.1)) (ds c.1 q.2.2)) (ds c.2.1 q.1)) (ds c.2.1 q.2.1)) (ds c.2.1 q.2.2)) (ds c.2.2 q.1)) (ds c.2.2 q.2.1)) (ds c.2.2 q.2.2)
def ne3 (c q : PN) : Int := nr (blo c) (bhi c) (blo q) (bhi q)
theorem fa3_f {c q : PN} (hc : bdP 5000 c) (hq : bdP 5000 q) : F138_L_L [(F135 c).1, (F135 c).2.1, (F135 c).2.2] [(F135 q).1, (F135 q).2.1, (F135 q).2.2] = fa3 c q := by
  refine (farF3 c q.1 q.2.1 q.2.2).trans ?_
  rw [fF_eq hc.1 hq.1, fF_eq hc.1 hq.2.1, fF_eq hc.1 hq.2.2, fF_eq hc.2.1 hq.1, fF_eq hc.2.1 hq.2.1, fF_eq hc.2.1 hq.2.2, fF_eq hc.2.2 hq.1, fF_eq hc.2.2 hq.2.1, fF_eq hc.2.2 hq.2.2]; rfl
theorem fa3_r {c q : PN} (hc : bdP 5000 c) (hq : bdP 5000 q) : F146_L c [q.1, q.2.1, q.2.2] = fa3 c q := by
  rw [farR3, rF_eq hc.1 hq.1, rF_eq hc.1 hq.2.1, rF_eq hc.1 hq.2.2, rF_eq hc.2.1 hq.1, rF_eq hc.2.1 hq.2.1, rF_eq hc.2.1 hq.2.2, rF_eq hc.2.2 hq.1, rF_eq hc.2.2 hq.2.1, rF_eq hc.2.2 hq.2.2, mx_comm9]; rfl
theorem ne3_f {c q : PN} (hc : bdP 5000 c) (hq : bdP 5000 q) : F139_3_3 (F135 c) (F135 q) = ne3 c q := near33 hc hq
theorem ne3_r {c q : PN} (hc : bdP 5000 c) (hq : bdP 5000 q) : F147_3 c q = ne3 c q := close3 hc hq
theorem fa3_bd {c q : PN} (hc : bdP 5000 c) (hq : bdP 5000 q) : fa3 c q ≤ 300000000 :=
  mx_le (mx_le (mx_le (mx_le (mx_le (mx_le (mx_le (mx_le (mx_le (by omega) (ds_bd hc.1 hq.1).2) (ds_bd hc.1 hq.2.1).2) (ds_bd hc.1 hq.2.2).2) (ds_bd hc.2.1 hq.1).2) (ds_bd hc.2.1 hq.2.1).2) (ds_bd hc.2.1 hq.2.2).2) (ds_bd hc.2.2 hq.1).2) (ds_bd hc.2.2 hq.2.1).2) (ds_bd hc.2.2 hq.2.2).2
theorem fa3_ge (c q : PN) : ds c.1 q.1 ≤ fa3 c q ∧ ds c.2.1 q.1 ≤ fa3 c q ∧ ds c.2.2 q.1 ≤ fa3 c q := by
  refine ⟨?_, ?_, ?_⟩
  · exact Int.le_trans (le_mx2 _ _) (Int.le_trans (le_mx1 _ _) (Int.le_trans (le_mx1 _ _) (Int.le_trans (le_mx1 _ _) (Int.le_trans (le_mx1 _ _) (Int.le_trans (le_mx1 _ _) (Int.le_trans (le_mx1 _ _) (Int.le_trans (le_mx1 _ _) (le_mx1 _ _))))))))
  · exact Int.le_trans (le_mx2 _ _) (Int.le_trans (le_mx1 _ _) (Int.le_trans (le_mx1 _ _) (Int.le_trans (le_mx1 _ _) (Int.le_trans (le_mx1 _ _) (le_mx1 _ _)))))
  · exact Int.le_trans (le_mx2 _ _) (Int.le_trans (le_mx1 _ _) (le_mx1 _ _))
theorem gp_le2 {a b c d x y : Int} (h1 : a ≤ x) (h2 : x ≤ b) (h3 : c ≤ y) (h4 : y ≤ d) : gp a b c d * gp a b c d ≤ (x - y) * (x - y) := by
  refine sq_le (gp_nn _ _ _ _) ?_
  unfold gp mx
  (repeat' split) <;> omega
theorem ne3_le (c q : PN) : 0 ≤ ne3 c q ∧ ne3 c q ≤ fa3 c q := by
  refine ⟨nr_nn _ _ _ _, Int.le_trans ?_ (fa3_ge c q).1⟩
  have h1 := gp_le2 (lo3_le c.1.1 c.2.1.1 c.2.2.1).1 (le_hi3 c.1.1 c.2.1.1 c.2.2.1).1 (lo3_le q.1.1 q.2.1.1 q.2.2.1).1 (le_hi3 q.1.1 q.2.1.1 q.2.2.1).1
  have h2 := gp_le2 (lo3_le c.1.2.1 c.2.1.2.1 c.2.2.2.1).1 (le_hi3 c.1.2.1 c.2.1.2.1 c.2.2.2.1).1 (lo3_le q.1.2.1 q.2.1.2.1 q.2.2.2.1).1 (le_hi3 q.1.2.1 q.2.1.2.1 q.2.2.2.1).1
  have h3 := gp_le2 (lo3_le c.1.2.2 c.2.1.2.2 c.2.2.2.2).1 (le_hi3 c.1.2.2 c.2.1.2.2 c.2.2.2.2).1 (lo3_le q.1.2.2 q.2.1.2.2 q.2.2.2.2).1 (le_hi3 q.1.2.2 q.2.1.2.2 q.2.2.2.2).1
  unfold ne3 nr ds dt sb
  simp only [blo, bhi]
  omega
/-! the normal of a part is the panel's -/
theorem nrm_quad {x y : PN} (h : bdP 100000 x) (hy : y ∈ quad x) : nrm y = nrm x := by
  unfold quad q1 q2 q3 q4 at hy
  rw [mid_f h.1 h.2.1, mid_f h.2.2 h.1, mid_f h.2.1 h.2.2, times_f h.1, times_f h.2.1, times_f h.2.2] at hy
  simp only [List.mem_cons, List.mem_nil_iff, or_false] at hy
  unfold nrm cr sb
  rcases hy with rfl | rfl | rfl | rfl <;> simp only [Prod.mk.injEq] <;> refine ⟨?_, ?_, ?_⟩ <;> grind
theorem nrm_cut : ∀ (d : Nat) {m : Int} {p x : PN}, bdP m p → m * 2 ^ d ≤ 100000 → 0 ≤ m → x ∈ cutL d p → nrm x = nrm p
  | 0, m, p, x, h, _, _, hx => by simp [cutL] at hx; subst hx; rfl
  | d + 1, m, p, x, h, hm, h0, hx => by
    rw [cutL_quad, List.mem_flatMap] at hx
    obtain ⟨y, hy, hx⟩ := hx
    have hp : (0 : Int) < 2 ^ d := Int.pow_pos (by omega)
    have hle : m * 2 ^ d ≤ m * 2 ^ (d + 1) := Int.mul_le_mul_of_nonneg_left (by rw [Int.pow_succ]; omega) h0
    have hb := cutL_bd d h (by omega) h0 hy
    rw [nrm_quad (hb.mono (by omega)) hx, nrm_cut d h (by omega) h0 hy]
theorem nrm_in {p c : PN} {d : Int} (hp : bdP 64 p) (hd : 0 ≤ d ∧ d ≤ 3) (hc : c ∈ cutL d.toNat p) : nrm c = nrm p := by
  have : d.toNat = 0 ∨ d.toNat = 1 ∨ d.toNat = 2 ∨ d.toNat = 3 := by omega
  rcases this with h | h | h | h <;> rw [h] at hc <;> exact nrm_cut (m := 64) _ hp (by decide) (by decide) hc
theorem nn_far (c : PN) (x : P3) {R : Int} (h1 : ds c.1 x ≤ R) (h2 : ds c.2.1 x ≤ R) (h3 : ds c.2.2 x ≤ R) : dt (nrm c) (nrm c) ≤ (4 * R) * (4 * R) := by
  have lag : ∀ u v : P3, dt (cr u v) (cr u v) ≤ dt u u * dt v v := by
    intro u v
    have h := sq_nn (dt u v)
    have e : dt (cr u v) (cr u v) + dt u v * dt u v = dt u u * dt v v := by
      unfold dt cr; grind
    omega
  have par : ∀ a b : P3, dt (sb a b) (sb a b) ≤ 2 * ds a x + 2 * ds b x := by
    intro a b
    have k : ∀ s t y : Int, (s - t) * (s - t) ≤ 2 * ((s - y) * (s - y)) + 2 * ((t - y) * (t - y)) := by
      intro s t y
      have := sq_nn (s + t - 2 * y)
      grind
    have k1 := k a.1 b.1 x.1; have k2 := k a.2.1 b.2.1 x.2.1; have k3 := k a.2.2 b.2.2 x.2.2
    unfold ds dt sb; simp only; omega
  have p1 := par c.2.1 c.1; have p2 := par c.2.2 c.1
  refine Int.le_trans (lag _ _) (Int.mul_le_mul (by omega) (by omega) (dt_self _) ?_)
  have := dt_self (sb c.1 x)
  unfold ds at *; omega
theorem NN_sc (d : Int) : NN (sc d) = sc d * sc d * 1099511627776 := rfl
theorem low_rim {p c : PN} {d : Int} (hp : vp p = 0) (hd : 0 ≤ d ∧ d ≤ 3) (hc : c ∈ cutL d.toNat p) (x : P3) {R : Int} (h1 : ds c.1 x ≤ R) (h2 : ds c.2.1 x ≤ R) (h3 : ds c.2.2 x ≤ R) : (of1 (sc d) R).1 ≤ F134 p d := by
  obtain ⟨r, hr, r1, r2, hu, _⟩ := rim_spec hp hd
  have hR : 0 ≤ R := Int.le_trans (dt_self _) h1
  have hn := nn_far c x h1 h2 h3
  rw [nrm_in (vp_ok hp).1 hd hc] at hn
  have h4 : r ≤ 4 * R := by
    rcases Int.lt_or_le (4 * R) r with h | h
    · have := Int.mul_le_mul (show 4 * R + 1 ≤ r by omega) (show 4 * R + 1 ≤ r by omega) (by omega) hr.1
      have e : (4 * R + 1) * (4 * R + 1) = (4 * R) * (4 * R) + 8 * R + 1 := by grind
      have := hr.2.1; omega
    · exact h
  unfold of1
  rw [if_neg (by omega)]
  obtain ⟨k, hk, _, k0, k1, k2, k3, k4, k5⟩ := inv_facts (NN_bd (sc_in d)) (show 1 ≤ R by omega)
  unfold inv
  rw [hk]
  simp only
  rcases Int.lt_or_le (F134 p d) k with h | h
  · exfalso
    obtain ⟨u1, _⟩ := cq_facts (t := top d) (b := 128 * r) (by omega)
    have v0 := hu.1; have v1 := hu.2.1
    generalize F134 p d = m at *
    have e1 : cq (top d) (128 * r) * (128 * r) ≤ m * m * (128 * r) := Int.mul_le_mul_of_nonneg_right v1 (by omega)
    have e2 : m * m ≤ k * k := Int.mul_le_mul (by omega) (by omega) v0 k0
    have e3 : m * m * (128 * r) ≤ k * k * (512 * R) := Int.mul_le_mul e2 (by omega) (by omega) k2
    have e4 : k * k * (512 * R) = 512 * (k * k * R) := by grind
    rw [NN_sc] at k5
    have := cnt_in d
    unfold top at *
    omega
  · exact h
/-! sums of bounds -/
def accS (lo hi : PN → Int) : List PN → Int × Int → Int × Int
  | [], v => v
  | c :: l, v => accS lo hi l (v.1 + lo c, v.2 + hi c)
theorem okv_add {lo hi : Int} {v : Int × Int} {n : Nat} (h : okv v (n + 1)) (h1 : 0 ≤ lo ∧ lo ≤ hi ∧ hi ≤ 536870913) : okv (v.1 + lo, v.2 + hi) n := by
  unfold okv at *; simp only; omega
theorem accS_ok {lo hi : PN → Int} : ∀ {l : List PN} {v : Int × Int}, (∀ c ∈ l, 0 ≤ lo c ∧ lo c ≤ hi c ∧ hi c ≤ 536870913) → okv v l.length → okv (accS lo hi l v) 0
  | [], v, _, h => h
  | c :: l, v, hl, h => accS_ok (l := l) (fun c hc => hl c (List.mem_cons_of_mem _ hc)) (okv_add h (hl c List.mem_cons_self))
theorem accS_foldl {lo hi : PN → Int} {S : Int × Int → PN → Int × Int} : ∀ {l : List PN} {v : Int × Int}, (∀ c ∈ l, 0 ≤ lo c ∧ lo c ≤ hi c ∧ hi c ≤ 536870913) →
    (∀ c ∈ l, ∀ v : Int × Int, S v c = (W (v.1 + lo c), W (v.2 + hi c))) → okv v l.length → l.foldl S v = accS lo hi l v
  | [], v, _, _, _ => rfl
  | c :: l, v, hl, hS, h => by
    have h1 := okv_add h (hl c List.mem_cons_self)
    have h2 := h1
    unfold okv at h2; simp only at h2
    rw [List.foldl_cons, hS c List.mem_cons_self v, W_eq (by omega) (by omega), W_eq (by omega) (by omega)]
    exact accS_foldl (l := l) (fun c hc => hl c (List.mem_cons_of_mem _ hc)) (fun c hc => hS c (List.mem_cons_of_mem _ hc)) h1
theorem accS_loopF {lo hi : PN → Int} {S : Int × Int × Int → (Int × Int × Int) ⊕ (Int × Int)} {G : Int × Int → Int × Int} {L : List PN} (hl : ∀ c ∈ L, 0 ≤ lo c ∧ lo c ≤ hi c ∧ hi c ≤ 536870913)
    (hS : ∀ (i : Nat) (c : PN), L[i]? = some c → ∀ v1 v2 : Int, S (v1, v2, (i : Int)) = .inl (W (v1 + lo c), W (v2 + hi c), ((i + 1 : Nat) : Int)))
    (hE : ∀ v1 v2 : Int, S (v1, v2, (L.length : Int)) = .inr (G (v1, v2))) :
    ∀ (l : List PN) (i n : Nat) (v : Int × Int), L.drop i = l → i ≤ L.length → l.length < n → okv v l.length → loopF S n (v.1, v.2, (i : Int)) = G (accS lo hi l v)
  | [], i, n, v, hd, hi', hn, h => by
    have : i = L.length := by have := List.drop_eq_nil_iff.1 hd; omega
    obtain ⟨n, rfl⟩ : ∃ m, n = m + 1 := ⟨n - 1, by simp only [List.length_nil] at hn; omega⟩
    subst this
    rw [loopF_inr (hE _ _)]; rfl
  | c :: l, i, n, v, hd, hi', hn, h => by
    have hc : L[i]? = some c := by
      have : (L.drop i)[0]? = some c := by rw [hd]; rfl
      simpa using this
    obtain ⟨hlt, hce⟩ := List.getElem?_eq_some_iff.1 hc
    obtain ⟨n, rfl⟩ : ∃ m, n = m + 1 := ⟨n - 1, by omega⟩
    have h1 := okv_add h (hl c (hce ▸ List.getElem_mem hlt))
    have h2 := h1
    unfold okv at h2; simp only at h2
    rw [loopF_inl (hS i c hc v.1 v.2), W_eq (by omega) (by omega), W_eq (by omega) (by omega)]
    exact accS_loopF hl hS hE l (i + 1) n _ (by rw [← List.drop_drop, hd]; rfl) (by omega) (by simp only [List.length_cons] at hn; omega) h1
noncomputable def bLo (d : Int) (q c : PN) : Int := (of1 (sc d) (fa3 c q)).1
noncomputable def bHi (R d : Int) (q c : PN) : Int := if 0 < ne3 c q then (if (of1 (sc d) (ne3 c q)).2 < R then (of1 (sc d) (ne3 c q)).2 else R) else R
theorem b_ok {p q : PN} {d : Int} (hp : vp p = 0) (hd : 0 ≤ d ∧ d ≤ 3) : ∀ c ∈ cutL d.toNat p, 0 ≤ bLo d q c ∧ bLo d q c ≤ bHi (F134 p d) d q c ∧ bHi (F134 p d) d q c ≤ 536870913 := by
  intro c hc
  obtain ⟨_, _, _, _, _, hub⟩ := rim_spec hp hd
  have ho := of1_ok (sc_in d)
  obtain ⟨g1, g2, g3⟩ := fa3_ge c q
  have hl := low_rim hp hd hc q.1 g1 g2 g3
  have hn := ne3_le c q
  have h0 := ho.lo (fa3 c q)
  unfold bLo bHi
  split
  · rename_i hz
    have h1 := ho.mono (ne3 c q) (fa3 c q) (by omega) hn.2; have h2 := ho.le (ne3 c q)
    split <;> omega
  · omega
noncomputable def betS (p q : PN) (d : Int) : Int × Int := avg (accS (bLo d q) (bHi (F134 p d) d q) (cutL d.toNat p) (0, 0)) (sc d * sc d)
section
variable {p q : PN} {d : Int}
theorem bet_f (hp : vp p = 0) (hq : bdP 5000 q) (hd : 0 ≤ d ∧ d ≤ 3) : F84 p q d = betS p q d := by
  have hk := okv_0 (p := p) hd
  have hb := b_ok (q := q) hp hd
  unfold F84 betS
  rw [accS_foldl hb (fun c hc v => ?_) hk]
  · show F140 _ _ _ = _
    rw [cnt_f hd, avg_f (cnt_in d) (accS_ok hb hk)]
  · have hcb := (cutL_in (vp_ok hp).1 hd hc).mono (show (512 : Int) ≤ 5000 by omega)
    obtain ⟨v1, v2⟩ := v
    have h1 := fa3_bd hcb hq; have h2 := ne3_le c q
    simp only [S84_r]
    rw [sc_f hd, ne3_f hcb hq, fa3_f hcb hq, one_f (sc_in d) (by omega), one_f (sc_in d) (by omega)]
    unfold bLo bHi
    by_cases h : 0 < ne3 c q
    · rw [if_pos h, decide_eq_true (show ne3 c q > 0 from h), cond_true]
    · rw [if_neg h, decide_eq_false (show ¬ ne3 c q > 0 from h), cond_false]
theorem bet_r (hp : vp p = 0) (hq : bdP 5000 q) (hd : 0 ≤ d ∧ d ≤ 3) : F89 p d q = betS p q d := by
  have hk := okv_0 (p := p) hd
  have hb := b_ok (q := q) hp hd
  have hL := cutR (vp_ok hp).1 hd
  have hl := cnt_len hd p
  unfold F89 betS
  rw [show ((0, 0, 0) : Int × Int × Int) = (((0, 0) : Int × Int).1, ((0, 0) : Int × Int).2, ((0 : Nat) : Int)) from rfl,
    accS_loopF hb (S := S89_0 p d q) (G := fun v => (F148 v.1 (sc d * sc d), F149 v.2 (sc d * sc d))) (fun i c hi v1 v2 => ?_) (fun v1 v2 => ?_) (cutL d.toNat p) 0 _ (0, 0) rfl (Nat.zero_le _) (by rw [hL]; omega) hk]
  · have hu := accS_ok hb hk
    unfold okv at hu
    rw [dn_r (cnt_in d) (by omega), up_r (cnt_in d) (by omega)]; rfl
  · obtain ⟨hlt, hc⟩ := List.getElem?_eq_some_iff.1 hi
    have hm : c ∈ cutL d.toNat p := hc ▸ List.getElem_mem hlt
    have hcb := (cutL_in (vp_ok hp).1 hd hm).mono (show (512 : Int) ≤ 5000 by omega)
    have hg : (cutL d.toNat p).getD i default = c := by rw [List.getD_eq_getElem?_getD, hi]; rfl
    have h1 := fa3_bd hcb hq; have h2 := ne3_le c q
    simp only [S89_0]
    rw [hL, decide_eq_true (show ((i : Nat) : Int) < ((cutL d.toNat p).length : Nat) by omega), cond_true, Int.toNat_natCast, hg, sc_r hd, ne3_r hcb hq, fa3_r hcb hq, one_r (sc_in d) (by omega), one_r (sc_in d) (by omega), rim_eq hp hd]
    unfold bLo bHi
    by_cases h : 0 < ne3 c q
    · rw [if_pos h, decide_eq_true (show ne3 c q > 0 from h), cond_true]; rfl
    · rw [if_neg h, decide_eq_false (show ¬ ne3 c q > 0 from h), cond_false]; rfl
  · simp only [S89_0]
    rw [hL, decide_eq_false (Int.lt_irrefl _), cond_false, hl]
end
def tmP (s : Int) (q : PN) : PN := (tm s q.1, tm s q.2.1, tm s q.2.2)
theorem tmP_bd {q : PN} {s : Int} (hs : 1 ≤ s ∧ s ≤ 8) (hq : bdP 64 q) : bdP 5000 (tmP s q) :=
  ⟨(bd_tm hs (by omega) hq.1).mono (by omega), (bd_tm hs (by omega) hq.2.1).mono (by omega), (bd_tm hs (by omega) hq.2.2).mono (by omega)⟩
theorem Between_eq (p q : PN) (d : Int) : F42 p q d = F44 p q d := by
  unfold F42 F44
  rw [pair_eq, paired_eq]
  by_cases h : pk p q d = 0
  · obtain ⟨h1, h2, h3⟩ := pk_ok h
    have hs := sc_bd d
    have hq := (vp_ok h2).1
    have hq' := hq.mono (show (64 : Int) ≤ 4096 by omega)
    have hd : 0 ≤ d ∧ d ≤ 3 := by omega
    rw [sc_f hd, sc_r hd, tm_f hs hq'.1, tm_f hs hq'.2.1, tm_f hs hq'.2.2, tm_r hs hq'.1, tm_r hs hq'.2.1, tm_r hs hq'.2.2]
    have e1 := bet_f h1 (tmP_bd hs hq) hd
    have e2 := bet_r h1 (tmP_bd hs hq) hd
    unfold tmP at e1 e2
    rw [e1, e2]
  · rw [bne_iff_ne.2 h, cond_true, cond_true]

end Go.Proofs.YtnbpiejjeeomkaaGreat

namespace Go.Proofs.YtnbpiejjeeomkaaGreat
open Go.Proofs Go.Aw Go.RowKit
set_option maxRecDepth 100000
set_option linter.unusedVariables false
set_option linter.unusedSimpArgs false

end Go.Proofs.YtnbpiejjeeomkaaGreat

namespace Go.Proofs.YtnbpiejjeeomkaaGreat
open Go.Proofs Go.Aw Go.RowKit
set_option maxRecDepth 100000
set_option linter.unusedVariables false
set_option linter.unusedSimpArgs false

/-! ### Products that may be too large -/
def vs (a : Int × Int) : Prop := -1099511627776 ≤ a.1 ∧ a.1 ≤ a.2 ∧ a.2 ≤ 1099511627776
/-! halves -/
end Go.Proofs.YtnbpiejjeeomkaaGreat

namespace Go.Proofs.YtnbpiejjeeomkaaGreat
open Go.Proofs Go.Aw Go.RowKit
set_option maxRecDepth 100000
set_option linter.unusedVariables false
set_option linter.unusedSimpArgs false

/-! ### Solid angles -/
def ht (p : PN) (x : P3) : Int := dt (sb p.1 x) (cr (sb p.2.1 x) (sb p.2.2 x))
/-! ### Corners exchanged -/
end Go.Proofs.YtnbpiejjeeomkaaGreat

namespace Go.Proofs.YtnbpiejjeeomkaaGreat
open Go.Proofs Go.Aw Go.RowKit
set_option maxRecDepth 100000
set_option linter.unusedVariables false
set_option linter.unusedSimpArgs false

/-! ### Finer parts -/
/-! what is proved of a part holds of its parts -/
/-! sums -/
end Go.Proofs.YtnbpiejjeeomkaaGreat

namespace Go.Proofs.YtnbpiejjeeomkaaGreat
open Go.Proofs Go.Aw Go.RowKit
set_option maxRecDepth 100000
set_option linter.unusedVariables false
set_option linter.unusedSimpArgs false

end Go.Proofs.YtnbpiejjeeomkaaGreat

namespace Go.Proofs.YtnbpiejjeeomkaaGreat
open Go.Proofs Go.Aw Go.RowKit
set_option maxRecDepth 100000
set_option linter.unusedVariables false
set_option linter.unusedSimpArgs false

/-! ### Means of lists of spans -/
def sums : List (Int × Int) → Int × Int → Int × Int
  | [], v => v
  | a :: l, v => sums l (v.1 + a.1, v.2 + a.2)
section
variable {l : List (Int × Int)}
end
/-! ### The mean over two panels -/
end Go.Proofs.YtnbpiejjeeomkaaGreat

namespace Go.Proofs.YtnbpiejjeeomkaaGreat
open Go.Proofs Go.Aw Go.RowKit
set_option maxRecDepth 100000
set_option linter.unusedVariables false
set_option linter.unusedSimpArgs false

end Go.Proofs.YtnbpiejjeeomkaaGreat

namespace Go.Proofs.YtnbpiejjeeomkaaGreat
open Go.Proofs Go.Aw Go.RowKit
set_option maxRecDepth 100000
set_option linter.unusedVariables false
set_option linter.unusedSimpArgs false

/-! ### Sound: what the small functions say -/
/-! distances -/
/-! what is asked -/
/-! how far sound goes -/
end Go.Proofs.YtnbpiejjeeomkaaGreat

namespace Go.Proofs.YtnbpiejjeeomkaaGreat
open Go.Proofs Go.Aw Go.RowKit
set_option maxRecDepth 100000
set_option linter.unusedVariables false
set_option linter.unusedSimpArgs false

end Go.Proofs.YtnbpiejjeeomkaaGreat

namespace Go.Proofs.YtnbpiejjeeomkaaGreat
open Go.Proofs Go.Aw Go.RowKit
set_option maxRecDepth 100000
set_option linter.unusedVariables false
set_option linter.unusedSimpArgs false

end Go.Proofs.YtnbpiejjeeomkaaGreat

namespace Go.Proofs.YtnbpiejjeeomkaaGreat
open Go.Proofs Go.Aw Go.RowKit
set_option maxRecDepth 100000
set_option linter.unusedVariables false
set_option linter.unusedSimpArgs false

end Go.Proofs.YtnbpiejjeeomkaaGreat

namespace Go.Proofs.YtnbpiejjeeomkaaGreat
open Go.Proofs Go.Aw Go.RowKit
set_option maxRecDepth 100000
set_option linter.unusedVariables false
set_option linter.unusedSimpArgs false

/-! ### Travels -/
section
variable {n s t : Int}
end
/-! ### From when to when -/
end Go.Proofs.YtnbpiejjeeomkaaGreat

namespace Go.Proofs.YtnbpiejjeeomkaaGreat
open Go.Proofs Go.Aw Go.RowKit
set_option maxRecDepth 100000
set_option linter.unusedVariables false
set_option linter.unusedSimpArgs false

/-! ### What is heard of a pulse -/
/-! a list that is filled, or left at the first error -/
/-! a pulse in a tick -/
end Go.Proofs.YtnbpiejjeeomkaaGreat

namespace Go.Proofs.YtnbpiejjeeomkaaGreat
open Go.Proofs Go.Aw Go.RowKit
set_option maxRecDepth 100000
set_option linter.unusedVariables false
set_option linter.unusedSimpArgs false

/-! ### Slices of flat elements as arguments -/
open Go.ChangeShapes Go.WideShapes Go.ChangeAt
section
variable {H : Type} {enc : TypeId × Value → H} {P : Program} {w : World}
def SliceOf (w : World) (es : Nat) (v : Value) (nss : List (List Int)) : Prop :=
  (∀ ns ∈ nss, ns.length = es) ∧ nss.length ≤ 9223372036854775807 ∧
  ((v = .slice none 0 0 ∧ nss = []) ∨ ∃ b o cap, v = .slice (some ⟨b, o, none⟩) nss.length cap ∧ nss.length ≤ cap ∧ ∀ (i : Nat) (x : Value), ((nss.flatten).map (Value.int .i64))[i]? = some x → w.cell? ⟨b, o + i, none⟩ = some x)
theorem flat_cells {es b : Nat} : ∀ (nss : List (List Int)) (o : Nat), (∀ (j : Nat) (ns : List Int), nss[j]? = some ns → ns.length = es ∧ ∀ (q : Nat) (x : Value), (ns.map (Value.int .i64))[q]? = some x → w.cell? ⟨b, o + j * es + q, none⟩ = some x) →
    ∀ (i : Nat) (x : Value), ((nss.flatten).map (Value.int .i64))[i]? = some x → w.cell? ⟨b, o + i, none⟩ = some x
  | [], o, _, i, x, hi => by simp at hi
  | ns :: l, o, h, i, x, hi => by
    obtain ⟨h1, h2⟩ := h 0 ns rfl
    rw [List.flatten_cons, List.map_append] at hi
    by_cases hlt : i < ns.length
    · rw [List.getElem?_append_left (by simpa using hlt)] at hi
      have := h2 i x hi
      simpa using this
    · rw [List.getElem?_append_right (by simpa using hlt)] at hi
      have := flat_cells l (o + es) (fun j ms hj => ⟨(h (j + 1) ms hj).1, fun q y hq => by
        have := (h (j + 1) ms hj).2 q y hq
        rw [show o + es + j * es + q = o + (j + 1) * es + q by rw [Nat.add_mul]; omega]; exact this⟩) (i - es) x (by simpa [h1] using hi)
      rw [show o + es + (i - es) = o + i by omega] at this; exact this
theorem open_list {r : Reach} {b0 : Nat} {t e : TypeId} {es : Nat} {v : Value} {d : DataW H} {ps : List MemPlace} (ht : P.underlying t = some (.slice e)) (hf : flatB P 6 e = true) (hes : P.cellsOf e = es)
    (hval : Value.okWide P w r b0 t v) (hd : DataW.Trod enc P w 0 (fun _ => true) true t v d ps) : (∃ nss, SliceOf w es v nss) ∧ ∀ x ∈ ps, x.block < w.heap.size := by
  obtain ⟨fuel, hx⟩ := hd
  refine ⟨?_, DataW.trod_lt fuel t _ _ hx⟩
  obtain ⟨a, len, cap, rfl⟩ := okWide_slice ht hval
  rcases Go.Deep.open_slice ht hx with ⟨hc, _⟩ | ⟨a', len', cap', m, n, D, Pl, hc, hb, hl, hm, hmm, _, hall⟩
  · simp only [Value.cells, List.cons.injEq, and_true] at hc
    exact ⟨[], fun ns h => by simp at h, by simp, .inl ⟨hc, rfl⟩⟩
  · simp only [Value.cells, List.cons.injEq, and_true, Value.slice.injEq] at hc
    obtain ⟨rfl, rfl, rfl⟩ := hc
    simp only [Value.okWide, ht, Cell.okWide, Cell.ok, World.has] at hval
    have hsp : a'.spot = none := hval.2.2.2.1
    obtain ⟨b, o, sp⟩ := a'
    simp only at hsp
    subst hsp
    simp only [if_true] at hmm
    obtain ⟨N, hN⟩ := Go.Deep.choose_lt (α := List Int) (p := fun i ns => ns.length = es ∧ ∀ (q : Nat) (x : Value), (ns.map (Value.int .i64))[q]? = some x → w.cell? ⟨b, o + i * es + q, none⟩ = some x) (n := len) (fun i hi => by
      obtain ⟨cs', h1, h2⟩ := hall i (by omega)
      obtain ⟨_, ns, rfl⟩ := flat_trod 6 e n cs' _ hf h2
      obtain ⟨_, hlen, hcell⟩ := World.cells?_some h1
      rw [hes] at hlen hcell
      refine ⟨ns, by simpa using hlen, fun q x hq => ?_⟩
      have hq' := (List.getElem?_eq_some_iff.1 hq).1
      have := hcell q (by omega)
      rw [Go.Aw.add_eq, Go.Aw.add_eq] at this
      rw [this, hq])
    refine ⟨(List.range len).map N, fun ns h => ?_, ?_, .inr ⟨b, o, cap, ?_, ?_, ?_⟩⟩
    · obtain ⟨i, hi, rfl⟩ := List.mem_map.1 h
      exact (hN i (by simpa using hi)).1
    · have : maxLen = 9223372036854775807 := rfl
      simp; omega
    · simp
    · simpa using hl
    · refine flat_cells (es := es) _ o (fun j ns hj => ?_)
      have hjl := (List.getElem?_eq_some_iff.1 hj).1
      simp only [List.length_map, List.length_range] at hjl
      have : N j = ns := by simpa [hjl] using hj
      subst this
      exact hN j hjl
def rho (es : Nat) : Value → Option (Nat × Nat × Nat)
  | .slice (some a) _ cap => some (a.block, a.off, cap * es)
  | _ => none
theorem slice_rel {es : Nat} {v : Value} {nss : List (List Int)} {ρ : Env} {k : Nat} (h : SliceOf w es v nss) (hk : ρ k = rho es v) : Rel ρ (.s k 0 nss.length es) v := by
  obtain ⟨h1, h2, ⟨rfl, rfl⟩ | ⟨b, o, cap, rfl, h3, h4⟩⟩ := h
  · simp only [Rel]; exact .inl ⟨hk, rfl, trivial⟩
  · simp only [Rel]; exact .inr ⟨b, o, cap * es, cap, 0, hk, rfl, h3, by omega, fun _ => rfl⟩
theorem flatten_len {es : Nat} : ∀ {nss : List (List Int)}, (∀ ns ∈ nss, ns.length = es) → nss.flatten.length = nss.length * es
  | [], _ => by simp
  | ns :: l, h => by
    rw [List.flatten_cons, List.length_append, flatten_len (fun m hm => h m (List.mem_cons_of_mem _ hm)), h ns List.mem_cons_self, List.length_cons, Nat.add_mul]; omega
theorem slice_brep {es : Nat} {v : Value} {nss : List (List Int)} {ρ : Env} {k : Nat} {M : Nat → Prop} (h : SliceOf w es v nss) (hk : ρ k = rho es v) (hM : ∀ b, M b → w.heap.size ≤ b) : BRep ρ M w k (.live false true ((nss.flatten).map iv)) := by
  obtain ⟨h1, h2, ⟨rfl, rfl⟩ | ⟨b, o, cap, rfl, h3, h4⟩⟩ := h
  · exact .inl ⟨hk, rfl⟩
  · have hlen := flatten_len h1
    refine .inr ⟨b, o, cap * es, (nss.flatten).map (Value.int .i64), hk, ⟨?_, fun hne hm => ?_⟩, rels_iv _, h4⟩
    · rw [List.length_map, hlen]; exact Nat.mul_le_mul_right _ h3
    · have hb := hM b hm
      obtain ⟨x, hx⟩ := List.exists_mem_of_ne_nil _ hne
      obtain ⟨i, hi⟩ := List.getElem?_of_mem hx
      have := World.block_lt_of_cell? w ⟨b, o + i, none⟩ (h4 i x hi)
      exact absurd this (Nat.not_lt_of_le hb)
theorem flat_mk {α : Type} {c : α → List SV} {f : List Int → α} {es : Nat} (hc : ∀ ns : List Int, ns.length = es → c (f ns) = ns.map iv) : ∀ {nss : List (List Int)}, (∀ ns ∈ nss, ns.length = es) → flat c (nss.map f) = (nss.flatten).map iv
  | [], _ => rfl
  | ns :: l, h => by
    have := flat_mk hc (nss := l) (fun m hm => h m (List.mem_cons_of_mem _ hm))
    unfold flat at *
    rw [List.map_cons, List.flatMap_cons, this, hc ns (h ns List.mem_cons_self), List.flatten_cons, List.map_append]
end
theorem plain_ivs : ∀ ns : List Int, Plain (ns.map iv)
  | [] => fun k hk => by simp [SV.hasl] at hk
  | n :: l => fun k hk => by
    simp only [List.map_cons, SV.hasl] at hk
    rcases hk with hk | hk
    · simp [iv, SV.has] at hk
    · exact plain_ivs l k hk
theorem law_callsL {P : Program} {f : Nat} {args : List SV} {vs : List Value} {x : Value} {bs : List BK} (hc : Con P f args bs (.v x) []) (ρ : Env) {W : World} (hr : Rels ρ args vs) (hown : ∀ i, ¬ (bs.getD i .un).own)
    (hb : (∀ b, (callCx ρ W bs).mine b → W.heap.size ≤ b) → ∀ i, BRep ρ (callCx ρ W bs).mine W i (bs.getD i .un)) (hpl : ∀ i, (bs.getD i .un).pl) (hnf : ∀ b, ρ.fz b = none) :
    Calls P f vs.toArray W fun e W' => e = .returned x ∧ Below W.heap.size W W' := by
  have hM : ∀ b, (callCx ρ W bs).mine b → W.heap.size ≤ b := by
    rintro b (h | ⟨i, n, hi, _⟩)
    · exact h
    · exact absurd hi (hown i)
  refine (hc.2 ρ W vs hr (hb hM) hpl (fun i j b n b' n' _ h => absurd h (hown i)) (fun b o h => by rw [hnf b] at h; cases h)).mono fun e W' h => ?_
  obtain ⟨ρ', v, rfl, _, hv, hk, _⟩ := h
  refine ⟨by rw [show v = x from hv], hk.os, hk.tape, hk.output, hk.size, fun k hk' => hk.block k hk' ?_⟩
  rintro ⟨i, n, hi, _⟩
  exact hown i hi
def rho1 (e : Nat) (v : Value) : Env := ⟨fun k => if k = 0 then rho e v else none, fun _ => none⟩
theorem law_calls1 {P : Program} {f es0 : Nat} {args : List SV} {vs : List Value} {x v0 : Value} {nss0 : List (List Int)} {W : World} (hc : Con P f args [.live false true ((nss0.flatten).map iv)] (.v x) [])
    (s0 : SliceOf W es0 v0 nss0) (hr : Rels (rho1 es0 v0) args vs) : Calls P f vs.toArray W fun e W' => e = .returned x ∧ Below W.heap.size W W' := by
  refine law_callsL hc _ hr (fun i => ?_) (fun hM i => ?_) (fun i => ?_) (fun _ => rfl)
  · rcases i with _ | i <;> simp [BK.own]
  · rcases i with _ | i
    · exact slice_brep s0 rfl hM
    · simp [BRep]
  · rcases i with _ | i
    · exact plain_ivs _
    · simp [BK.pl]
end Go.Proofs.YtnbpiejjeeomkaaGreat

namespace Go.Proofs.YtnbpiejjeeomkaaGreat
open Go.Proofs Go.Aw Go.RowKit
set_option maxRecDepth 100000
set_option linter.unusedVariables false
set_option linter.unusedSimpArgs false

/-! ### Sums of lists of spans -/
theorem flat_lenc {α : Type} {c : α → List SV} {es : Nat} (hc : ∀ x, (c x).length = es) (l : List α) : (flat c l).length = l.length * es := flat_length hc l
section
variable {l : List (Int × Int)}
end
end Go.Proofs.YtnbpiejjeeomkaaGreat

namespace Go.Proofs.YtnbpiejjeeomkaaGreat
open Go.Proofs Go.Aw Go.RowKit
set_option maxRecDepth 100000
set_option linter.unusedVariables false
set_option linter.unusedSimpArgs false

theorem vch_len {l : List (PN × Int)} (h : F41_L l = 0) : l.length ≤ 96 := by
  rcases Nat.lt_or_ge 96 l.length with h' | h'
  · exfalso
    unfold F41_L at h
    rw [decide_eq_true (by omega), cond_true] at h
    exact absurd h (by decide)
  · exact h'
theorem flat_set {α : Type} {c : α → List SV} {es : Nat} (hc : ∀ x, (c x).length = es) {L : List α} {i o : Nat} {xs : List SV} {d y : α} (hi : i < L.length) (ho : o + xs.length ≤ es) (hy : c y = splice (c (L.getD i d)) o xs) :
    splice (flat c L) (0 + i * es + o) xs = flat c (L.set i y) := by
  induction L generalizing i with
  | nil => simp at hi
  | cons x L ih =>
    cases i with
    | zero =>
      have hy' : c y = splice (c x) o xs := hy
      have hx := hc x
      simp only [flat, List.flatMap_cons, List.set_cons_zero, hy']
      unfold splice
      simp only [Nat.zero_mul, Nat.zero_add]
      rw [List.take_append_of_le_length (by omega), List.drop_append_of_le_length (by omega)]
      simp [List.append_assoc]
    | succ i =>
      have h := ih (i := i) (by simpa using hi) hy
      have hx := hc x
      simp only [flat, List.flatMap_cons, List.set_cons_succ] at h ⊢
      rw [← h]
      unfold splice
      have e1 : 0 + (i + 1) * es + o = (c x).length + (0 + i * es + o) := by rw [hx, Nat.add_mul]; omega
      rw [e1, List.take_length_add_append, show (c x).length + (0 + i * es + o) + xs.length = (c x).length + (0 + i * es + o + xs.length) by omega, List.drop_length_add_append]
      simp [List.append_assoc]
theorem flat_setl {α : Type} {c : α → List SV} {es : Nat} (hc : ∀ x, (c x).length = es) {L : List α} {i o n : Nat} (hi : i < L.length) (ho : o + n ≤ es) : 0 + i * es + o + n ≤ (flat c L).length := by
  rw [flat_length hc]
  have := Nat.mul_le_mul_right es (show i + 1 ≤ L.length by omega)
  rw [Nat.add_mul] at this
  omega

end Go.Proofs.YtnbpiejjeeomkaaGreat

namespace Go.Proofs.YtnbpiejjeeomkaaGreat
open Go.Proofs Go.Aw Go.RowKit
set_option maxRecDepth 100000
set_option linter.unusedVariables false
set_option linter.unusedSimpArgs false

/-! ### Windows: a part of a list, by where it begins -/
theorem mulw (w i es x : Nat) : 0 + w * es + i * es + x = 0 + (w + i) * es + x := by rw [Nat.add_mul]; omega
theorem flat_setw {α : Type} {c : α → List SV} {es : Nat} (hc : ∀ x, (c x).length = es) {L : List α} {w i o : Nat} {xs : List SV} {d y : α} (hi : w + i < L.length) (ho : o + xs.length ≤ es) (hy : c y = splice (c (L.getD (w + i) d)) o xs) :
    splice (flat c L) (0 + w * es + i * es + o) xs = flat c (L.set (w + i) y) := by rw [mulw]; exact flat_set hc hi ho hy
theorem flat_setwl {α : Type} {c : α → List SV} {es : Nat} (hc : ∀ x, (c x).length = es) {L : List α} {w i o n : Nat} (hi : w + i < L.length) (ho : o + n ≤ es) : 0 + w * es + i * es + o + n ≤ (flat c L).length := by rw [mulw]; exact flat_setl hc hi ho
theorem ldw {α : Type} [Inhabited α] {c : α → List SV} {es : Nat} (hc : ∀ x, (c x).length = es) (l : List α) (w : Nat) (i : Int) (o n : Nat) (h : w + i.toNat < l.length) (ho : o + n ≤ es) :
    ((flat c l).drop (0 + w * es + i.toNat * es + o)).take n = ((c (l.getD (w + i.toNat) default)).drop o).take n := by
  rw [mulw]
  have := ld_at hc l ((w + i.toNat : Nat) : Int) o n ⟨by omega, by omega⟩ ho
  rw [Int.toNat_natCast] at this
  exact this
def stLw {P : Program} {α : Type} [Inhabited α] {c : α → List SV} {es : Nat} (hc : ∀ x, (c x).length = es) (l : List α) (w : Nat) (i : Int) (o n : Nat) (h : w + i.toNat < l.length := by first | omega | (simp only [List.length_set]; omega)) (ho : o + n ≤ es := by decide) : St P :=
  St.l (l := flat c l) (o := 0 + w * es + i.toNat * es + o) (n := n) (((c (l.getD (w + i.toNat) default)).drop o).take n) (ldw hc l w i o n h ho)
def InR (n : Nat) (l : List Int) : Prop := ∀ x ∈ l, 0 ≤ x ∧ x < (n : Int)
theorem InR.at {n : Nat} {l : List Int} (h : InR n l) {i : Nat} (hi : i < l.length) : 0 ≤ l.getD i default ∧ l.getD i default < (n : Int) := by
  rw [List.getD_eq_getElem?_getD, List.getElem?_eq_getElem hi, Option.getD_some]
  exact h _ (List.getElem_mem hi)
theorem InR.set {n : Nat} {l : List Int} (h : InR n l) {i : Nat} {x : Int} (hx : 0 ≤ x ∧ x < (n : Int)) : InR n (l.set i x) := fun y hy => by
  rcases List.mem_or_eq_of_mem_set hy with hy | rfl
  · exact h y hy
  · exact hx
theorem InR.swap {n : Nat} {l : List Int} (h : InR n l) {i j p q : Nat} (hp : p < l.length) (hq : q < l.length) : InR n ((l.set i (l.getD p default)).set j (l.getD q default)) := (h.set (h.at hp)).set (h.at hq)

def c75 (x : Int × Int × Int × Int × (Int × Int × Int) × Int) : List SV := [(iv x.1), (iv x.2.1), (iv x.2.2.1), (iv x.2.2.2.1), (iv x.2.2.2.2.1.1), (iv x.2.2.2.2.1.2.1), (iv x.2.2.2.2.1.2.2), (iv x.2.2.2.2.2)]
theorem c75_len (x : Int × Int × Int × Int × (Int × Int × Int) × Int) : (c75 x).length = 8 := rfl

def F224 (a0 : (List (((Int × Int × Int) × (Int × Int × Int) × Int × Int × Int) × Int)) × Int × List (Int) × List (Int × Int × Int × Int × (Int × Int × Int) × Int)) (a1 : Int) (a2 : Int) : Int :=
  (bif ((a2 : Int) == 0) then
   (W ((W ((a0.1.getD (Int.toNat a1) default).1.1.1 + (a0.1.getD (Int.toNat a1) default).1.2.1.1)) + (a0.1.getD (Int.toNat a1) default).1.2.2.1))
  else
   (bif ((a2 : Int) == 1) then
    (W ((W ((a0.1.getD (Int.toNat a1) default).1.1.2.1 + (a0.1.getD (Int.toNat a1) default).1.2.1.2.1)) + (a0.1.getD (Int.toNat a1) default).1.2.2.2.1))
   else
    (W ((W ((a0.1.getD (Int.toNat a1) default).1.1.2.2 + (a0.1.getD (Int.toNat a1) default).1.2.1.2.2)) + (a0.1.getD (Int.toNat a1) default).1.2.2.2.2))))

theorem C224 (a0 : (List (((Int × Int × Int) × (Int × Int × Int) × Int × Int × Int) × Int)) × Int × List (Int) × List (Int × Int × Int × Int × (Int × Int × Int) × Int)) (a1 : Int) (a2 : Int) (l0_1 : a0.1.length ≤ 9223372036854775807) (l0_2_2_1 : a0.2.2.1.length ≤ 9223372036854775807) (l0_2_2_2 : a0.2.2.2.length ≤ 9223372036854775807) (hi : 0 ≤ a1 ∧ a1 < (a0.1.length : Int)) : Con Tryz.prog 224 [(.p 0 0), (iv a1), (iv a2)] [(.live false false [(.s 1 0 a0.1.length 10), (iv a0.2.1), (.s 2 0 a0.2.2.1.length 1), (.s 3 0 a0.2.2.2.length 8)]), (.live false true (flat c85 a0.1)), (.live false true (flat c3 a0.2.2.1)), (.live false true (flat c75 a0.2.2.2))] (iv (F224 a0 a1 a2)) [] := by
  refine con_s Tryz.func224 (by kernel_rfl) fun cx hcx => ?_
  let t0 : List (St Tryz.prog) := [.i a1 (a0.1.length), .L c85_len a0.1 a1 0 9]
  cases h0 : ((a2 : Int) == 0) with
  | true =>
   have q0 := eq_of_beq h0
   have e := Eq.refl (F224 a0 a1 a2); conv at e => rhs; simp only [F224, h0, cond_true, cond_false]
   rw [e]
   exact rt (t0 ++ [.d h0]) [] [] hcx (by kernel_rfl)
  | false =>
   have q0 := ne_of_beq_false h0
   let t1 : List (St Tryz.prog) := (t0 ++ [.d h0])
   cases h1 : ((a2 : Int) == 1) with
   | true =>
    have q1 := eq_of_beq h1
    have e := Eq.refl (F224 a0 a1 a2); conv at e => rhs; simp only [F224, h0, h1, cond_true, cond_false]
    rw [e]
    exact rt (t1 ++ [.d h1]) [] [] hcx (by kernel_rfl)
   | false =>
    have q1 := ne_of_beq_false h1
    have e := Eq.refl (F224 a0 a1 a2); conv at e => rhs; simp only [F224, h0, h1, cond_true, cond_false]
    rw [e]
    exact rt (t1 ++ [.d h1]) [] [] hcx (by kernel_rfl)

def F247 (a0 : Int) : Bool :=
  ((a0 : Int) != a0)

theorem C247 (a0 : Int) : Con Tryz.prog 247 [(iv a0)] [] (.v (.bool (F247 a0))) [] := by
  refine con_s Tryz.func247 (by kernel_rfl) fun cx hcx => ?_
  have e := Eq.refl (F247 a0); conv at e => rhs; simp only [F247]
  rw [e]
  exact rt [] [] [] hcx (by kernel_rfl)

def F226 (a0 : Int) (a1 : Int) : Int :=
  (bif (F247 a0) then
   (bif (F247 a1) then
    0
   else
    (-1))
  else
   (bif (F247 a1) then
    1
   else
    (bif (decide ((a0 : Int) < a1)) then
     (-1)
    else
     (bif (decide ((a0 : Int) > a1)) then
      1
     else
      0))))

theorem C226 (a0 : Int) (a1 : Int) : Con Tryz.prog 226 [(iv a0), (iv a1)] [] (iv (F226 a0 a1)) [] := by
  refine con_s Tryz.func226 (by kernel_rfl) fun cx hcx => ?_
  let t0 : List (St Tryz.prog) := [.c [] (C247 a0), .c [] (C247 a1)]
  cases h0 : (F247 a0) with
  | true =>
   let t1 : List (St Tryz.prog) := (t0 ++ [.d h0])
   cases h1 : (F247 a1) with
   | true =>
    have e := Eq.refl (F226 a0 a1); conv at e => rhs; simp only [F226, h0, h1, cond_true, cond_false]
    rw [e]
    exact rt (t1 ++ [.d h1]) [] [] hcx (by kernel_rfl)
   | false =>
    have e := Eq.refl (F226 a0 a1); conv at e => rhs; simp only [F226, h0, h1, cond_true, cond_false]
    rw [e]
    exact rt (t1 ++ [.d h1]) [] [] hcx (by kernel_rfl)
  | false =>
   let t1 : List (St Tryz.prog) := (t0 ++ [.d h0])
   cases h1 : (F247 a1) with
   | true =>
    have e := Eq.refl (F226 a0 a1); conv at e => rhs; simp only [F226, h0, h1, cond_true, cond_false]
    rw [e]
    exact rt (t1 ++ [.d h1]) [] [] hcx (by kernel_rfl)
   | false =>
    let t2 : List (St Tryz.prog) := (t1 ++ [.d h1])
    cases h2 : (decide ((a0 : Int) < a1)) with
    | true =>
     have q2 := of_decide_eq_true h2
     have e := Eq.refl (F226 a0 a1); conv at e => rhs; simp only [F226, h0, h1, h2, cond_true, cond_false]
     rw [e]
     exact rt (t2 ++ [.d h2]) [] [] hcx (by kernel_rfl)
    | false =>
     have q2 := of_decide_eq_false h2
     let t3 : List (St Tryz.prog) := (t2 ++ [.d h2])
     cases h3 : (decide ((a0 : Int) > a1)) with
     | true =>
      have q3 := of_decide_eq_true h3
      have e := Eq.refl (F226 a0 a1); conv at e => rhs; simp only [F226, h0, h1, h2, h3, cond_true, cond_false]
      rw [e]
      exact rt (t3 ++ [.d h3]) [] [] hcx (by kernel_rfl)
     | false =>
      have q3 := of_decide_eq_false h3
      have e := Eq.refl (F226 a0 a1); conv at e => rhs; simp only [F226, h0, h1, h2, h3, cond_true, cond_false]
      rw [e]
      exact rt (t3 ++ [.d h3]) [] [] hcx (by kernel_rfl)

def F225_2 (a0 : (Int) × (Int)) : Int :=
  (bif ((a0.1 : Int) != 0) then
   a0.1
  else
   (bif ((a0.2 : Int) != 0) then
    a0.2
   else
    0))

theorem C225_2 (a0 : (Int) × (Int)) : Con Tryz.prog 225 [(.s 0 0 2 1)] [(.live false false [(iv a0.1), (iv a0.2)])] (iv (F225_2 a0)) [] := by
  refine con_s Tryz.func225 (by kernel_rfl) fun cx hcx => ?_
  let t0 : List (St Tryz.prog) := [.u 200, .T, .i 0 2 (by decide)]
  cases h0 : ((a0.1 : Int) != 0) with
  | true =>
   have q0 := bne_iff_ne.1 h0
   have e := Eq.refl (F225_2 a0); conv at e => rhs; simp only [F225_2, h0, cond_true, cond_false]
   rw [e]
   exact rt (t0 ++ [.d h0]) [] [] hcx (by kernel_rfl)
  | false =>
   have q0 := bne_eq_false_iff_eq.1 h0
   let t1 : List (St Tryz.prog) := (t0 ++ [.d h0, .u 0, .T, .i 1 2 (by decide)])
   cases h1 : ((a0.2 : Int) != 0) with
   | true =>
    have q1 := bne_iff_ne.1 h1
    have e := Eq.refl (F225_2 a0); conv at e => rhs; simp only [F225_2, h0, h1, cond_true, cond_false]
    rw [e]
    exact rt (t1 ++ [.d h1]) [] [] hcx (by kernel_rfl)
   | false =>
    have q1 := bne_eq_false_iff_eq.1 h1
    have e := Eq.refl (F225_2 a0); conv at e => rhs; simp only [F225_2, h0, h1, cond_true, cond_false]
    rw [e]
    exact rt (t1 ++ [.d h1, .u 0, .F]) [] [] hcx (by kernel_rfl)

def F183 (a0 : ((List (((Int × Int × Int) × (Int × Int × Int) × Int × Int × Int) × Int)) × Int × List (Int) × List (Int × Int × Int × Int × (Int × Int × Int) × Int)) × Int) (a1 : Int) (a2 : Int) : Int :=
  (F225_2 ((F226 (F224 (a0.1.1, a0.1.2.1, (a0.1.2.2.1, a0.1.2.2.2)) a1 a0.2) (F224 (a0.1.1, a0.1.2.1, (a0.1.2.2.1, a0.1.2.2.2)) a2 a0.2)), (F226 a1 a2)))

theorem C183 (a0 : ((List (((Int × Int × Int) × (Int × Int × Int) × Int × Int × Int) × Int)) × Int × List (Int) × List (Int × Int × Int × Int × (Int × Int × Int) × Int)) × Int) (a1 : Int) (a2 : Int) (l0_1_1 : a0.1.1.length ≤ 9223372036854775807) (l0_1_2_2_1 : a0.1.2.2.1.length ≤ 9223372036854775807) (l0_1_2_2_2 : a0.1.2.2.2.length ≤ 9223372036854775807) (hi : 0 ≤ a1 ∧ a1 < (a0.1.1.length : Int)) (hk : 0 ≤ a2 ∧ a2 < (a0.1.1.length : Int)) : Con Tryz.prog 183 [(.a [(.p 0 0), (iv a0.2)]), (iv a1), (iv a2)] [(.live false false [(.s 1 0 a0.1.1.length 10), (iv a0.1.2.1), (.s 2 0 a0.1.2.2.1.length 1), (.s 3 0 a0.1.2.2.2.length 8)]), (.live false true (flat c85 a0.1.1)), (.live false true (flat c3 a0.1.2.2.1)), (.live false true (flat c75 a0.1.2.2.2))] (iv (F183 a0 a1 a2)) [] := by
  refine con_s Tryz.func183 (by kernel_rfl) fun cx hcx => ?_
  have e := Eq.refl (F183 a0 a1 a2); conv at e => rhs; simp only [F183]
  rw [e]
  exact rt [.c [0, 1, 2, 3] (C224 (a0.1.1, a0.1.2.1, (a0.1.2.2.1, a0.1.2.2.2)) a1 a0.2 (by (try simp only [List.length_append, List.length_cons, List.length_nil, Int.toNat_zero]); omega) (by (try simp only [List.length_append, List.length_cons, List.length_nil, Int.toNat_zero]); omega) (by (try simp only [List.length_append, List.length_cons, List.length_nil, Int.toNat_zero]); omega) (by first | exact hi | exact hk)), .c [0, 1, 2, 3] (C224 (a0.1.1, a0.1.2.1, (a0.1.2.2.1, a0.1.2.2.2)) a2 a0.2 (by (try simp only [List.length_append, List.length_cons, List.length_nil, Int.toNat_zero]); omega) (by (try simp only [List.length_append, List.length_cons, List.length_nil, Int.toNat_zero]); omega) (by (try simp only [List.length_append, List.length_cons, List.length_nil, Int.toNat_zero]); omega) (by first | exact hi | exact hk)), .c [] (C226 (F224 (a0.1.1, a0.1.2.1, (a0.1.2.2.1, a0.1.2.2.2)) a1 a0.2) (F224 (a0.1.1, a0.1.2.1, (a0.1.2.2.1, a0.1.2.2.2)) a2 a0.2)), .c [] (C226 a1 a2), .c [5] (C225_2 ((F226 (F224 (a0.1.1, a0.1.2.1, (a0.1.2.2.1, a0.1.2.2.2)) a1 a0.2) (F224 (a0.1.1, a0.1.2.1, (a0.1.2.2.1, a0.1.2.2.2)) a2 a0.2)), (F226 a1 a2)))] [] [] hcx (by kernel_rfl)

end Go.Proofs.YtnbpiejjeeomkaaGreat

namespace Go.Proofs.YtnbpiejjeeomkaaGreat
open Go.Proofs Go.Aw Go.RowKit
set_option maxRecDepth 100000
set_option linter.unusedVariables false
set_option linter.unusedSimpArgs false

noncomputable def B237_W_b183_1 : Code := (loopAtD [1, 0, 1, 0, 1] [0] (bodyOf Tryz.f237) []).1
noncomputable def K237_W_b183_1 (m0 : Nat) : List K := (loopAtD [1, 0, 1, 0, 1] [m0] (bodyOf Tryz.f237) []).2

def st237_W_b183_1 (a0 : List (Int)) (a0_o : Nat) (a0_n : Nat) (a1 : Int) (a2 : Int) (a3 : ((List (((Int × Int × Int) × (Int × Int × Int) × Int × Int × Int) × Int)) × Int × List (Int) × List (Int × Int × Int × Int × (Int × Int × Int) × Int)) × Int) (v5c : List SV) (v5n : Nat) (v6 : Int) (v7 : Int) : LS := ⟨slN 53 [(0, (.s 0 (0 + a0_o * 1) a0_n 1)), (1, (iv a1)), (2, (iv a2)), (3, (.f 1000183 [(.a [(.p 1 0), (iv a3.2)])])), (8, (iv v6)), (9, (iv v7))], [(.live true true v5c), (.live false false [(.s 2 0 a3.1.1.length 10), (iv a3.1.2.1), (.s 0 0 v5n 1), (.s 3 0 a3.1.2.2.2.length 8)]), (.live false true (flat c85 a3.1.1)), (.live false true (flat c75 a3.1.2.2.2))]⟩

def S237_W_b183_1 (a0 : List (Int)) (a0_o : Nat) (a0_n : Nat) (a1 : Int) (a2 : Int) (a3 : ((List (((Int × Int × Int) × (Int × Int × Int) × Int × Int × Int) × Int)) × Int × List (Int) × List (Int × Int × Int × Int × (Int × Int × Int) × Int)) × Int) : List (Int) × Int × Int → (List (Int) × Int × Int) ⊕ ((List (Int) × Int) ⊕ (List (Int)))
  | (v5, v6, v7) =>
   (bif (decide ((v7 : Int) > a1)) then
    (bif (decide (((F183 ((a3.1.1, a3.1.2.1, (v5, a3.1.2.2.2)), a3.2) (v5.getD (a0_o + Int.toNat v7) default) (v5.getD (a0_o + Int.toNat (W (v7 - 1))) default)) : Int) < 0)) then
     (.inl (((v5.set (a0_o + Int.toNat v7) (v5.getD (a0_o + Int.toNat (W (v7 - 1))) default)).set (a0_o + Int.toNat (W (v7 - 1))) (v5.getD (a0_o + Int.toNat v7) default)), v6, (W (v7 - 1))))
    else
     (.inr (.inl (v5, (v6 + 1)))))
   else
    (.inr (.inl (v5, (v6 + 1)))))

noncomputable def B237_W_b183_0 : Code := (loopAtD [1] [] (bodyOf Tryz.f237) []).1
noncomputable def K237_W_b183_0 : List K := (loopAtD [1] [] (bodyOf Tryz.f237) []).2

def st237_W_b183_0 (a0 : List (Int)) (a0_o : Nat) (a0_n : Nat) (a1 : Int) (a2 : Int) (a3 : ((List (((Int × Int × Int) × (Int × Int × Int) × Int × Int × Int) × Int)) × Int × List (Int) × List (Int × Int × Int × Int × (Int × Int × Int) × Int)) × Int) (v3c : List SV) (v3n : Nat) (v4 : Int) : LS := ⟨slN 53 [(0, (.s 0 (0 + a0_o * 1) a0_n 1)), (1, (iv a1)), (2, (iv a2)), (3, (.f 1000183 [(.a [(.p 1 0), (iv a3.2)])])), (8, (iv v4))], [(.live true true v3c), (.live false false [(.s 2 0 a3.1.1.length 10), (iv a3.1.2.1), (.s 0 0 v3n 1), (.s 3 0 a3.1.2.2.2.length 8)]), (.live false true (flat c85 a3.1.1)), (.live false true (flat c75 a3.1.2.2.2))]⟩

def S237_W_b183_0 (a0 : List (Int)) (a0_o : Nat) (a0_n : Nat) (a1 : Int) (a2 : Int) (a3 : ((List (((Int × Int × Int) × (Int × Int × Int) × Int × Int × Int) × Int)) × Int × List (Int) × List (Int × Int × Int × Int × (Int × Int × Int) × Int)) × Int) : List (Int) × Int → (List (Int) × Int) ⊕ (List (Int))
  | (v3, v4) =>
   (bif (decide ((v4 : Int) < a2)) then
    (loopF (S237_W_b183_1 a0 a0_o a0_n a1 a2 a3) (Int.toNat (v4 - a1) + 1) (v3, v4, v4))
   else
    (.inr v3))

set_option maxHeartbeats 4000000 in
theorem L237_W_b183_1 (a0 : List (Int)) (a0_o : Nat) (a0_n : Nat) (a1 : Int) (a2 : Int) (a3 : ((List (((Int × Int × Int) × (Int × Int × Int) × Int × Int × Int) × Int)) × Int × List (Int) × List (Int × Int × Int × Int × (Int × Int × Int) × Int)) × Int) (l0 : a0.length ≤ 9223372036854775807) (l3_1_1 : a3.1.1.length ≤ 9223372036854775807) (l3_1_2_2_1 : a3.1.2.2.1.length ≤ 9223372036854775807) (l3_1_2_2_2 : a3.1.2.2.2.length ≤ 9223372036854775807) (hw : a0_o + a0_n ≤ a0.length ∧ a0.length ≤ 1048576) (hr : InR a3.1.1.length a0) (hab : 0 ≤ a1 ∧ a1 ≤ a2 ∧ a2 ≤ ↑a0_n) {cx : Cx} (hcx : cx.base = 4)
    (n0 : Nat) (g0 : ∀ (v3 : List (Int)) (v4 : Int), (0 ≤ v4) ∧ (v3.length = a0.length) ∧ (InR a3.1.1.length v3) ∧ (a1 < v4) ∧ (v4 ≤ a2 + 1) → Int.toNat (a2 - v4) < n0 → Aw.Good Tryz.prog none 9 (bodyPost Tryz.prog Tryz.f237 (RR cx (.t []) [] [(.live true true (flat c3 (loopF (S237_W_b183_0 a0 a0_o a0_n a1 a2 a3) n0 (v3, v4)))), .un, .un, .un])) cx [] (.l B237_W_b183_0 n0 :: K237_W_b183_0) (st237_W_b183_0 a0 a0_o a0_n a1 a2 a3 (flat c3 v3) v3.length v4)) : ∀ (n : Nat) (v5 : List (Int)) (v6 : Int) (v7 : Int), (v5.length = a0.length) ∧ (InR a3.1.1.length v5) ∧ (a1 ≤ v7) ∧ (v7 ≤ v6) ∧ (a1 < v6) ∧ (v6 < a2) ∧ ((0 ≤ v6)) ∧ ((v5.length = a0.length)) ∧ ((InR a3.1.1.length v5)) ∧ ((a1 < v6)) ∧ ((v6 ≤ a2 + 1)) ∧ (v6 < a2) ∧ (Int.toNat (a2 - v6) < n0 + 1) → Int.toNat (v7 - a1) < n → Aw.Good Tryz.prog none 9 (bodyPost Tryz.prog Tryz.f237 (RR cx (.t []) [] [(.live true true (flat c3 (thenF (S237_W_b183_0 a0 a0_o a0_n a1 a2 a3) n0 (loopF (S237_W_b183_1 a0 a0_o a0_n a1 a2 a3) n (v5, v6, v7))))), .un, .un, .un])) cx [] (.l B237_W_b183_1 n :: K237_W_b183_1 n0) (st237_W_b183_1 a0 a0_o a0_n a1 a2 a3 (flat c3 v5) v5.length v6 v7) := by
  intro n
  induction n with
  | zero => intro v5 v6 v7 hi hn; exact absurd hn (Nat.not_lt_zero _)
  | succ n ih =>
    intro v5 v6 v7 hi hn
    refine good_round ?_
    have hw_s9m1 := W_eq (n := v7 - 1) (by omega) (by omega)
    cases h0 : (decide ((v7 : Int) > a1)) with
    | true =>
     have q0 := of_decide_eq_true h0
     let t1 : List (St Tryz.prog) := [.d h0, .i v7 a0_n, stLw c3_len v5 a0_o v7 0 1, .i (W (v7 - 1)) a0_n, stLw c3_len v5 a0_o (W (v7 - 1)) 0 1, .c [1, 2, 0, 3] (C183 ((a3.1.1, a3.1.2.1, (v5, a3.1.2.2.2)), a3.2) (v5.getD (a0_o + Int.toNat v7) default) (v5.getD (a0_o + Int.toNat (W (v7 - 1))) default) (by (try simp only [List.length_append, List.length_cons, List.length_nil, Int.toNat_zero]); omega) (by (try simp only [List.length_append, List.length_cons, List.length_nil, Int.toNat_zero]); omega) (by (try simp only [List.length_append, List.length_cons, List.length_nil, Int.toNat_zero]); omega) (hi.2.1.at (by omega)) (hi.2.1.at (by omega)))]
     cases h1 : (decide (((F183 ((a3.1.1, a3.1.2.1, (v5, a3.1.2.2.2)), a3.2) (v5.getD (a0_o + Int.toNat v7) default) (v5.getD (a0_o + Int.toNat (W (v7 - 1))) default)) : Int) < 0)) with
     | true =>
      have q1 := of_decide_eq_true h1
      have e := Eq.refl (S237_W_b183_1 a0 a0_o a0_n a1 a2 a3 (v5, v6, v7)); conv at e => rhs; simp only [S237_W_b183_1, h0, h1, cond_true, cond_false]
      rw [loopF_inl e]
      refine ba (t1 ++ [.d h1, .i (W (v7 - 1)) a0_n, stLw c3_len v5 a0_o (W (v7 - 1)) 0 1, .i v7 a0_n, stLw c3_len v5 a0_o v7 0 1, .i v7 a0_n, .p (show ((0 + a0_o * 1 + Int.toNat v7 * 1) + 1 ≤ (flat c3 v5).length) from (flat_setwl c3_len (by first | omega | (simp only [List.length_set]; omega)) (w := a0_o) (i := Int.toNat v7) (o := 0) (n := 1) (Nat.le_of_ble_eq_true rfl))), .i (W (v7 - 1)) a0_n, .p (show ((0 + a0_o * 1 + Int.toNat (W (v7 - 1)) * 1) + 1 ≤ (splice (flat c3 v5) (0 + a0_o * 1 + Int.toNat v7 * 1) [(iv (v5.getD (a0_o + Int.toNat (W (v7 - 1))) default))]).length) from (by rw [show (splice (flat c3 v5) (0 + a0_o * 1 + Int.toNat v7 * 1) [(iv (v5.getD (a0_o + Int.toNat (W (v7 - 1))) default))]) = flat c3 (v5.set (a0_o + Int.toNat v7) (v5.getD (a0_o + Int.toNat (W (v7 - 1))) default)) from (flat_setw c3_len (by first | omega | (simp only [List.length_set]; omega)) (w := a0_o) (i := Int.toNat v7) (o := 0) (d := default) (y := (v5.getD (a0_o + Int.toNat (W (v7 - 1))) default)) (xs := [(iv (v5.getD (a0_o + Int.toNat (W (v7 - 1))) default))]) (Nat.le_of_ble_eq_true rfl) rfl)]; exact flat_setwl c3_len (by first | omega | (simp only [List.length_set]; omega)) (w := a0_o) (i := Int.toNat (W (v7 - 1))) (o := 0) (n := 1) (Nat.le_of_ble_eq_true rfl)))]) [] [0, 1, 2, 3, 8, 9] [] hcx (m := n) B237_W_b183_1 (K237_W_b183_1 n0) (st237_W_b183_1 a0 a0_o a0_n a1 a2 a3 (splice (splice (flat c3 v5) (0 + a0_o * 1 + Int.toNat v7 * 1) [(iv (v5.getD (a0_o + Int.toNat (W (v7 - 1))) default))]) (0 + a0_o * 1 + Int.toNat (W (v7 - 1)) * 1) [(iv (v5.getD (a0_o + Int.toNat v7) default))]) (v5.length) v6 (W (v7 - 1))) (by kernel_rfl) ?_
      have z0 : (splice (splice (flat c3 v5) (0 + a0_o * 1 + Int.toNat v7 * 1) [(iv (v5.getD (a0_o + Int.toNat (W (v7 - 1))) default))]) (0 + a0_o * 1 + Int.toNat (W (v7 - 1)) * 1) [(iv (v5.getD (a0_o + Int.toNat v7) default))]) = flat c3 ((v5.set (a0_o + Int.toNat v7) (v5.getD (a0_o + Int.toNat (W (v7 - 1))) default)).set (a0_o + Int.toNat (W (v7 - 1))) (v5.getD (a0_o + Int.toNat v7) default)) := (by rw [show (splice (flat c3 v5) (0 + a0_o * 1 + Int.toNat v7 * 1) [(iv (v5.getD (a0_o + Int.toNat (W (v7 - 1))) default))]) = flat c3 (v5.set (a0_o + Int.toNat v7) (v5.getD (a0_o + Int.toNat (W (v7 - 1))) default)) from (flat_setw c3_len (by first | omega | (simp only [List.length_set]; omega)) (w := a0_o) (i := Int.toNat v7) (o := 0) (d := default) (y := (v5.getD (a0_o + Int.toNat (W (v7 - 1))) default)) (xs := [(iv (v5.getD (a0_o + Int.toNat (W (v7 - 1))) default))]) (Nat.le_of_ble_eq_true rfl) rfl)]; exact flat_setw c3_len (by first | omega | (simp only [List.length_set]; omega)) (w := a0_o) (i := Int.toNat (W (v7 - 1))) (o := 0) (d := default) (y := (v5.getD (a0_o + Int.toNat v7) default)) (xs := [(iv (v5.getD (a0_o + Int.toNat v7) default))]) (Nat.le_of_ble_eq_true rfl) rfl)
      have z1 : v5.length = ((v5.set (a0_o + Int.toNat v7) (v5.getD (a0_o + Int.toNat (W (v7 - 1))) default)).set (a0_o + Int.toNat (W (v7 - 1))) (v5.getD (a0_o + Int.toNat v7) default)).length := by simp
      rw [z0, z1]
      exact ih ((v5.set (a0_o + Int.toNat v7) (v5.getD (a0_o + Int.toNat (W (v7 - 1))) default)).set (a0_o + Int.toNat (W (v7 - 1))) (v5.getD (a0_o + Int.toNat v7) default)) v6 (W (v7 - 1)) (by refine ⟨?_, ?_, ?_, ?_, ?_, ?_, ?_, ?_, ?_, ?_, ?_, ?_, ?_⟩ <;> first | omega | assumption | exact hi.2.1 | exact hi.2.2.1 | (simp only [List.length_set]; omega) | exact InR.swap hi.2.1 (by omega) (by omega)) (by (try simp only [List.length_append, List.length_cons, List.length_nil, Int.toNat_zero]); omega)
     | false =>
      have q1 := of_decide_eq_false h1
      have e := Eq.refl (S237_W_b183_1 a0 a0_o a0_n a1 a2 a3 (v5, v6, v7)); conv at e => rhs; simp only [S237_W_b183_1, h0, h1, cond_true, cond_false]
      rw [loopF_s, e]
      refine ba (t1 ++ [.d h1]) [] [0, 1, 2, 3, 8] [] hcx (m := n0) B237_W_b183_0 (K237_W_b183_0) (st237_W_b183_0 a0 a0_o a0_n a1 a2 a3 (flat c3 v5) (v5.length) (W (v6 + 1))) (by kernel_rfl) ?_
      have z0 : (W (v6 + 1)) = (v6 + 1) := W_eq (by omega) (by omega)
      rw [z0]
      exact g0 v5 (v6 + 1) (by refine ⟨?_, ?_, ?_, ?_⟩ <;> first | omega | assumption | exact hi.2.1 | exact hi.2.2.1 | (simp only [List.length_set]; omega) | exact InR.swap hi.2.1 (by omega) (by omega)) (by (try simp only [List.length_append, List.length_cons, List.length_nil, Int.toNat_zero]); omega)
    | false =>
     have q0 := of_decide_eq_false h0
     have e := Eq.refl (S237_W_b183_1 a0 a0_o a0_n a1 a2 a3 (v5, v6, v7)); conv at e => rhs; simp only [S237_W_b183_1, h0, cond_true, cond_false]
     rw [loopF_s, e]
     refine ba [.d h0] [] [0, 1, 2, 3, 8] [] hcx (m := n0) B237_W_b183_0 (K237_W_b183_0) (st237_W_b183_0 a0 a0_o a0_n a1 a2 a3 (flat c3 v5) (v5.length) (W (v6 + 1))) (by kernel_rfl) ?_
     have z0 : (W (v6 + 1)) = (v6 + 1) := W_eq (by omega) (by omega)
     rw [z0]
     exact g0 v5 (v6 + 1) (by refine ⟨?_, ?_, ?_, ?_⟩ <;> first | omega | assumption | exact hi.2.1 | exact hi.2.2.1 | (simp only [List.length_set]; omega) | exact InR.swap hi.2.1 (by omega) (by omega)) (by (try simp only [List.length_append, List.length_cons, List.length_nil, Int.toNat_zero]); omega)

set_option maxHeartbeats 4000000 in
theorem L237_W_b183_0 (a0 : List (Int)) (a0_o : Nat) (a0_n : Nat) (a1 : Int) (a2 : Int) (a3 : ((List (((Int × Int × Int) × (Int × Int × Int) × Int × Int × Int) × Int)) × Int × List (Int) × List (Int × Int × Int × Int × (Int × Int × Int) × Int)) × Int) (l0 : a0.length ≤ 9223372036854775807) (l3_1_1 : a3.1.1.length ≤ 9223372036854775807) (l3_1_2_2_1 : a3.1.2.2.1.length ≤ 9223372036854775807) (l3_1_2_2_2 : a3.1.2.2.2.length ≤ 9223372036854775807) (hw : a0_o + a0_n ≤ a0.length ∧ a0.length ≤ 1048576) (hr : InR a3.1.1.length a0) (hab : 0 ≤ a1 ∧ a1 ≤ a2 ∧ a2 ≤ ↑a0_n) {cx : Cx} (hcx : cx.base = 4) : ∀ (n : Nat) (v3 : List (Int)) (v4 : Int), (0 ≤ v4) ∧ (v3.length = a0.length) ∧ (InR a3.1.1.length v3) ∧ (a1 < v4) ∧ (v4 ≤ a2 + 1) → Int.toNat (a2 - v4) < n → Aw.Good Tryz.prog none 9 (bodyPost Tryz.prog Tryz.f237 (RR cx (.t []) [] [(.live true true (flat c3 (loopF (S237_W_b183_0 a0 a0_o a0_n a1 a2 a3) n (v3, v4)))), .un, .un, .un])) cx [] (.l B237_W_b183_0 n :: K237_W_b183_0) (st237_W_b183_0 a0 a0_o a0_n a1 a2 a3 (flat c3 v3) v3.length v4) := by
  intro n
  induction n with
  | zero => intro v3 v4 hi hn; exact absurd hn (Nat.not_lt_zero _)
  | succ n ih =>
    intro v3 v4 hi hn
    refine good_round ?_
    have hw_s8p1 := W_eq (n := v4 + 1) (by omega) (by omega)
    cases h0 : (decide ((v4 : Int) < a2)) with
    | true =>
     have q0 := of_decide_eq_true h0
     have e := Eq.refl (S237_W_b183_0 a0 a0_o a0_n a1 a2 a3 (v3, v4)); conv at e => rhs; simp only [S237_W_b183_0, h0, cond_true, cond_false]
     rw [loopF_s, e]
     refine en [.d h0] [] [0, 1, 2, 3, 8, 9] [] hcx B237_W_b183_1 (K237_W_b183_1 n) (st237_W_b183_1 a0 a0_o a0_n a1 a2 a3 (flat c3 v3) (v3.length) v4 v4) (Int.toNat (v4 - a1) + 1) (by kernel_rfl) ?_
     exact L237_W_b183_1 a0 a0_o a0_n a1 a2 a3 l0 l3_1_1 l3_1_2_2_1 l3_1_2_2_2 hw hr hab hcx n ih (Int.toNat (v4 - a1) + 1) v3 v4 v4 (by refine ⟨?_, ?_, ?_, ?_, ?_, ?_, ?_, ?_, ?_, ?_, ?_, ?_, ?_⟩ <;> first | omega | assumption | exact hi.2.1 | exact hi.2.2.1 | (simp only [List.length_set]; omega) | exact InR.swap hi.2.1 (by omega) (by omega)) (by (try simp only [List.length_append, List.length_cons, List.length_nil, Int.toNat_zero]); omega)
    | false =>
     have q0 := of_decide_eq_false h0
     have e := Eq.refl (S237_W_b183_0 a0 a0_o a0_n a1 a2 a3 (v3, v4)); conv at e => rhs; simp only [S237_W_b183_0, h0, cond_true, cond_false]
     rw [loopF_s, e]
     try dsimp only
     exact rtn [.d h0] [] [0] [] hcx (by kernel_rfl)

def F237_W_b183 (a0 : List (Int)) (a0_o : Nat) (a0_n : Nat) (a1 : Int) (a2 : Int) (a3 : ((List (((Int × Int × Int) × (Int × Int × Int) × Int × Int × Int) × Int)) × Int × List (Int) × List (Int × Int × Int × Int × (Int × Int × Int) × Int)) × Int) : List (Int) :=
  (loopF (S237_W_b183_0 a0 a0_o a0_n a1 a2 a3) (Int.toNat (a2 - (W (a1 + 1))) + 1) (a0, (W (a1 + 1))))

theorem C237_W_b183 (a0 : List (Int)) (a0_o : Nat) (a0_n : Nat) (a1 : Int) (a2 : Int) (a3 : ((List (((Int × Int × Int) × (Int × Int × Int) × Int × Int × Int) × Int)) × Int × List (Int) × List (Int × Int × Int × Int × (Int × Int × Int) × Int)) × Int) (l0 : a0.length ≤ 9223372036854775807) (l3_1_1 : a3.1.1.length ≤ 9223372036854775807) (l3_1_2_2_1 : a3.1.2.2.1.length ≤ 9223372036854775807) (l3_1_2_2_2 : a3.1.2.2.2.length ≤ 9223372036854775807) (hw : a0_o + a0_n ≤ a0.length ∧ a0.length ≤ 1048576) (hr : InR a3.1.1.length a0) (hab : 0 ≤ a1 ∧ a1 ≤ a2 ∧ a2 ≤ ↑a0_n) : Con Tryz.prog 237 [(.s 0 (0 + a0_o * 1) a0_n 1), (iv a1), (iv a2), (.f 1000183 [(.a [(.p 1 0), (iv a3.2)])])] [(.live true true (flat c3 a0)), (.live false false [(.s 2 0 a3.1.1.length 10), (iv a3.1.2.1), (.s 0 0 a0.length 1), (.s 3 0 a3.1.2.2.2.length 8)]), (.live false true (flat c85 a3.1.1)), (.live false true (flat c75 a3.1.2.2.2))] (.t []) [] [(.live true true (flat c3 (F237_W_b183 a0 a0_o a0_n a1 a2 a3))), .un, .un, .un] := by
  refine con_s Tryz.func237 (by kernel_rfl) fun cx hcx => ?_
  have hw_a := W_eq (n := a1 + 1) (by omega) (by omega)
  have e := Eq.refl (F237_W_b183 a0 a0_o a0_n a1 a2 a3); conv at e => rhs; simp only [F237_W_b183]
  rw [e]
  refine en [] [] [0, 1, 2, 3, 8] [] hcx B237_W_b183_0 (K237_W_b183_0) (st237_W_b183_0 a0 a0_o a0_n a1 a2 a3 (flat c3 a0) (a0.length) (W (a1 + 1))) (Int.toNat (a2 - (W (a1 + 1))) + 1) (by kernel_rfl) ?_
  exact L237_W_b183_0 a0 a0_o a0_n a1 a2 a3 l0 l3_1_1 l3_1_2_2_1 l3_1_2_2_2 hw hr hab hcx (Int.toNat (a2 - (W (a1 + 1))) + 1) a0 (W (a1 + 1)) (by refine ⟨?_, ?_, ?_, ?_⟩ <;> first | omega | assumption | exact hi.2.1 | exact hi.2.2.1 | (simp only [List.length_set]; omega) | exact InR.swap hi.2.1 (by omega) (by omega)) (by (try simp only [List.length_append, List.length_cons, List.length_nil, Int.toNat_zero]); omega)

end Go.Proofs.YtnbpiejjeeomkaaGreat

namespace Go.Proofs.YtnbpiejjeeomkaaGreat
open Go.Proofs Go.Aw Go.RowKit
set_option maxRecDepth 100000
set_option linter.unusedVariables false
set_option linter.unusedSimpArgs false

def bitslay_ren : Go.Shelf.Ren := ⟨fun | 15 => 223 | 28 => 245 | 29 => 246 | n => n, fun | 39 => 120 | 3 => 3 | 53 => 226 | 55 => 184 | 4 => 4 | 5 => 5 | 9 => 9 | n => n, fun | n => n⟩
theorem bitslay : Go.Proofs.SlLaysF0.n15 Tryz.prog bitslay_ren := {
  mixed := by kernel_rfl
  f15 := Tryz.func223.trans (congrArg some (by kernel_rfl))
  f28 := Tryz.func245.trans (congrArg some (by kernel_rfl))
  f29 := Tryz.func246.trans (congrArg some (by kernel_rfl))
  t3 := Tryz.underlying3
  a3 := Tryz.isAgg3
  z3 := Tryz.sizeOf3
  v3 := Tryz.zeroValue3
  t4 := Tryz.underlying4
  a4 := Tryz.isAgg4
  z4 := Tryz.sizeOf4
  v4 := Tryz.zeroValue4
  t5 := Tryz.underlying5
  a5 := Tryz.isAgg5
  z5 := Tryz.sizeOf5
  v5 := Tryz.zeroValue5
  t9 := Tryz.underlying9
  a9 := Tryz.isAgg9
  z9 := Tryz.sizeOf9
  v9 := Tryz.zeroValue9
  t39 := Tryz.underlying120
  a39 := Tryz.isAgg120
  z39 := Tryz.sizeOf120
  v39 := Tryz.zeroValue120
  t53 := Tryz.underlying226
  a53 := Tryz.isAgg226
  z53 := Tryz.sizeOf226
  v53 := Tryz.zeroValue226
  t55 := Tryz.underlying184
  a55 := Tryz.isAgg184
  z55 := Tryz.sizeOf184
  v55 := Tryz.zeroValue184 }

/-! ### math/bits.Len -/
def F223 (n : Int) : Int := (Lib.bitLen n.toNat : Nat)
theorem C223 (a0 : Int) (hn : 0 ≤ a0 ∧ a0 ≤ 18446744073709551615) : Con Tryz.prog 223 [.v (.int .u64 a0)] [] (iv (F223 a0)) [] := by
  refine ⟨ent Tryz.func223 (by kernel_rfl) rfl, fun ρ W vs hr hb hpl hap hfz => ?_⟩
  match vs, hr with
  | [], hr => simp [Rels] at hr
  | _ :: _ :: _, hr => simp [Rels] at hr
  | [v1], hr =>
  simp only [Rels, and_true, Rel] at hr
  subst hr
  have h := Any.bits_Len (SlLaysF0.n15.bits (ρ := bitslay_ren) bitslay) a0 W hn.1 hn.2
  refine h.mono fun e w' ⟨he, hw⟩ => ?_
  subst hw
  have un1 : ∀ m j, postB m ([] : List BK) [] j = .un := fun m j => by unfold postB; simp
  exact ⟨ρ, _, he, fun _ _ => rfl, by simp only [iv, Rel]; rfl, Kept.refl _ _, fun j => by rw [un1]; trivial, fun j => by rw [un1]; trivial, fun i j b n b' n' _ o1 => by rw [un1] at o1; exact o1.elim, ρ.le_refl, fun b o hb => ⟨(hfz b o hb).1, fun j m o1 => by rw [un1] at o1; exact o1.elim, .inl hb⟩⟩

noncomputable def B222_W_b183_0 : Code := (loopAtD [1, 1] [] (bodyOf Tryz.f222) []).1
noncomputable def K222_W_b183_0 : List K := (loopAtD [1, 1] [] (bodyOf Tryz.f222) []).2

def st222_W_b183_0 (a0 : List (Int)) (a0_o : Nat) (a0_n : Nat) (a1 : Int) (a2 : Int) (a3 : Int) (a4 : ((List (((Int × Int × Int) × (Int × Int × Int) × Int × Int × Int) × Int)) × Int × List (Int) × List (Int × Int × Int × Int × (Int × Int × Int) × Int)) × Int) : LS := ⟨slN 148 [(0, (.s 0 (0 + a0_o * 1) a0_n 1)), (1, (iv a1)), (2, (iv a2)), (3, (iv a3)), (4, (.f 1000183 [(.a [(.p 1 0), (iv a4.2)])])), (10, (.v (.bool true))), (11, (.v (.bool true)))], [(.live true true (flat c3 a0)), (.live false false [(.s 2 0 a4.1.1.length 10), (iv a4.1.2.1), (.s 0 0 a0.length 1), (.s 3 0 a4.1.2.2.2.length 8)]), (.live false true (flat c85 a4.1.1)), (.live false true (flat c75 a4.1.2.2.2))]⟩

def S222_W_b183_0 (a0 : List (Int)) (a0_o : Nat) (a0_n : Nat) (a1 : Int) (a2 : Int) (a3 : Int) (a4 : ((List (((Int × Int × Int) × (Int × Int × Int) × Int × Int × Int) × Int)) × Int × List (Int) × List (Int × Int × Int × Int × (Int × Int × Int) × Int)) × Int) : Unit → (Unit) ⊕ (List (Int))
  | () =>
   (bif (decide (((W (a2 - a1)) : Int) ≤ 12)) then
    (.inr (F237_W_b183 a0 a0_o a0_n a1 a2 ((a4.1.1, a4.1.2.1, (a0, a4.1.2.2.2)), a4.2)))
   else
    (.inr default))

set_option maxHeartbeats 4000000 in
theorem L222_W_b183_0 (a0 : List (Int)) (a0_o : Nat) (a0_n : Nat) (a1 : Int) (a2 : Int) (a3 : Int) (a4 : ((List (((Int × Int × Int) × (Int × Int × Int) × Int × Int × Int) × Int)) × Int × List (Int) × List (Int × Int × Int × Int × (Int × Int × Int) × Int)) × Int) (l0 : a0.length ≤ 9223372036854775807) (l4_1_1 : a4.1.1.length ≤ 9223372036854775807) (l4_1_2_2_1 : a4.1.2.2.1.length ≤ 9223372036854775807) (l4_1_2_2_2 : a4.1.2.2.2.length ≤ 9223372036854775807) (hw : a0_o + a0_n ≤ a0.length ∧ a0.length ≤ 1048576) (hr : InR a4.1.1.length a0) (hab : 0 ≤ a1 ∧ a1 ≤ a2 ∧ a2 ≤ ↑a0_n) (h12 : a2 - a1 ≤ 12) {cx : Cx} (hcx : cx.base = 4) : ∀ (n : Nat), True → 0 < n → Aw.Good Tryz.prog none 9 (bodyPost Tryz.prog Tryz.f222 (RR cx (.t []) [] [(.live true true (flat c3 (loopF (S222_W_b183_0 a0 a0_o a0_n a1 a2 a3 a4) n ()))), .un, .un, .un])) cx [] (.l B222_W_b183_0 n :: K222_W_b183_0) (st222_W_b183_0 a0 a0_o a0_n a1 a2 a3 a4) := by
  intro n
  induction n with
  | zero => intro hi hn; exact absurd hn (Nat.not_lt_zero _)
  | succ n ih =>
    intro hi hn
    refine good_round ?_
    cases h0 : (decide (((W (a2 - a1)) : Int) ≤ 12)) with
    | true =>
     have q0 := of_decide_eq_true h0
     have e := Eq.refl (S222_W_b183_0 a0 a0_o a0_n a1 a2 a3 a4 ()); conv at e => rhs; simp only [S222_W_b183_0, h0, cond_true, cond_false]
     rw [loopF_s, e]
     try dsimp only
     try rw [show List.length (α := Int) (F237_W_b183 a0 a0_o a0_n a1 a2 ((a4.1.1, a4.1.2.1, (a0, a4.1.2.2.2)), a4.2)) = a0.length from by first | simp; done | omega]
     exact rtm [.d h0, .c [0, 1, 2, 3] (C237_W_b183 a0 a0_o a0_n a1 a2 ((a4.1.1, a4.1.2.1, (a0, a4.1.2.2.2)), a4.2) (by (try simp only [List.length_append, List.length_cons, List.length_nil, Int.toNat_zero]); omega) (by (try simp only [List.length_append, List.length_cons, List.length_nil, Int.toNat_zero]); omega) (by (try simp only [List.length_append, List.length_cons, List.length_nil, Int.toNat_zero]); omega) (by (try simp only [List.length_append, List.length_cons, List.length_nil, Int.toNat_zero]); omega) hw hr hab)] [] [0] [] hcx (by kernel_rfl)
    | false =>
     have q0 := of_decide_eq_false h0
     exfalso; have hw_l := W_eq (n := a2 - a1) (by omega) (by omega); omega

def F222_W_b183 (a0 : List (Int)) (a0_o : Nat) (a0_n : Nat) (a1 : Int) (a2 : Int) (a3 : Int) (a4 : ((List (((Int × Int × Int) × (Int × Int × Int) × Int × Int × Int) × Int)) × Int × List (Int) × List (Int × Int × Int × Int × (Int × Int × Int) × Int)) × Int) : List (Int) :=
  (loopF (S222_W_b183_0 a0 a0_o a0_n a1 a2 a3 a4) (0 + 1) ())

theorem C222_W_b183 (a0 : List (Int)) (a0_o : Nat) (a0_n : Nat) (a1 : Int) (a2 : Int) (a3 : Int) (a4 : ((List (((Int × Int × Int) × (Int × Int × Int) × Int × Int × Int) × Int)) × Int × List (Int) × List (Int × Int × Int × Int × (Int × Int × Int) × Int)) × Int) (l0 : a0.length ≤ 9223372036854775807) (l4_1_1 : a4.1.1.length ≤ 9223372036854775807) (l4_1_2_2_1 : a4.1.2.2.1.length ≤ 9223372036854775807) (l4_1_2_2_2 : a4.1.2.2.2.length ≤ 9223372036854775807) (hw : a0_o + a0_n ≤ a0.length ∧ a0.length ≤ 1048576) (hr : InR a4.1.1.length a0) (hab : 0 ≤ a1 ∧ a1 ≤ a2 ∧ a2 ≤ ↑a0_n) (h12 : a2 - a1 ≤ 12) : Con Tryz.prog 222 [(.s 0 (0 + a0_o * 1) a0_n 1), (iv a1), (iv a2), (iv a3), (.f 1000183 [(.a [(.p 1 0), (iv a4.2)])])] [(.live true true (flat c3 a0)), (.live false false [(.s 2 0 a4.1.1.length 10), (iv a4.1.2.1), (.s 0 0 a0.length 1), (.s 3 0 a4.1.2.2.2.length 8)]), (.live false true (flat c85 a4.1.1)), (.live false true (flat c75 a4.1.2.2.2))] (.t []) [] [(.live true true (flat c3 (F222_W_b183 a0 a0_o a0_n a1 a2 a3 a4))), .un, .un, .un] := by
  refine con_s Tryz.func222 (by kernel_rfl) fun cx hcx => ?_
  have e := Eq.refl (F222_W_b183 a0 a0_o a0_n a1 a2 a3 a4); conv at e => rhs; simp only [F222_W_b183]
  rw [e]
  refine en [] [] [0, 1, 2, 3, 4, 10, 11] [] hcx B222_W_b183_0 (K222_W_b183_0) (st222_W_b183_0 a0 a0_o a0_n a1 a2 a3 a4) (0 + 1) (by kernel_rfl) ?_
  exact L222_W_b183_0 a0 a0_o a0_n a1 a2 a3 a4 l0 l4_1_1 l4_1_2_2_1 l4_1_2_2_2 hw hr hab h12 hcx (0 + 1) trivial (by (try simp only [List.length_append, List.length_cons, List.length_nil, Int.toNat_zero]); omega)

def F181_W_b183 (a0 : List (Int)) (a0_o : Nat) (a0_n : Nat) (a1 : ((List (((Int × Int × Int) × (Int × Int × Int) × Int × Int × Int) × Int)) × Int × List (Int) × List (Int × Int × Int × Int × (Int × Int × Int) × Int)) × Int) : List (Int) :=
  (F222_W_b183 a0 a0_o a0_n 0 ((a0_n : Nat) : Int) (F223 (IntKind.wrap .u64 ((a0_n : Nat) : Int))) ((a1.1.1, a1.1.2.1, (a0, a1.1.2.2.2)), a1.2))

theorem C181_W_b183 (a0 : List (Int)) (a0_o : Nat) (a0_n : Nat) (a1 : ((List (((Int × Int × Int) × (Int × Int × Int) × Int × Int × Int) × Int)) × Int × List (Int) × List (Int × Int × Int × Int × (Int × Int × Int) × Int)) × Int) (l0 : a0.length ≤ 9223372036854775807) (l1_1_1 : a1.1.1.length ≤ 9223372036854775807) (l1_1_2_2_1 : a1.1.2.2.1.length ≤ 9223372036854775807) (l1_1_2_2_2 : a1.1.2.2.2.length ≤ 9223372036854775807) (hw : a0_o + a0_n ≤ a0.length ∧ a0.length ≤ 1048576) (hr : InR a1.1.1.length a0) (h12 : a0_n ≤ 12) : Con Tryz.prog 181 [(.s 0 (0 + a0_o * 1) a0_n 1), (.f 1000183 [(.a [(.p 1 0), (iv a1.2)])])] [(.live true true (flat c3 a0)), (.live false false [(.s 2 0 a1.1.1.length 10), (iv a1.1.2.1), (.s 0 0 a0.length 1), (.s 3 0 a1.1.2.2.2.length 8)]), (.live false true (flat c85 a1.1.1)), (.live false true (flat c75 a1.1.2.2.2))] (.t []) [] [(.live true true (flat c3 (F181_W_b183 a0 a0_o a0_n a1))), .un, .un, .un] := by
  refine con_s Tryz.func181 (by kernel_rfl) fun cx hcx => ?_
  have e := Eq.refl (F181_W_b183 a0 a0_o a0_n a1); conv at e => rhs; simp only [F181_W_b183]
  rw [e]
  try dsimp only
  try rw [show List.length (α := Int) (F222_W_b183 a0 a0_o a0_n 0 ((a0_n : Nat) : Int) (F223 (IntKind.wrap .u64 ((a0_n : Nat) : Int))) ((a1.1.1, a1.1.2.1, (a0, a1.1.2.2.2)), a1.2)) = a0.length from by first | simp; done | omega]
  exact rtn [.c [] (C223 (IntKind.wrap .u64 ((a0_n : Nat) : Int))  (by rw [IntKind.wrap_u64]; omega)), .c [0, 1, 2, 3] (C222_W_b183 a0 a0_o a0_n 0 ((a0_n : Nat) : Int) (F223 (IntKind.wrap .u64 ((a0_n : Nat) : Int))) ((a1.1.1, a1.1.2.1, (a0, a1.1.2.2.2)), a1.2) (by (try simp only [List.length_append, List.length_cons, List.length_nil, Int.toNat_zero]); omega) (by (try simp only [List.length_append, List.length_cons, List.length_nil, Int.toNat_zero]); omega) (by (try simp only [List.length_append, List.length_cons, List.length_nil, Int.toNat_zero]); omega) (by (try simp only [List.length_append, List.length_cons, List.length_nil, Int.toNat_zero]); omega) hw hr (by omega) (by omega))] [] [0] [] hcx (by kernel_rfl)

end Go.Proofs.YtnbpiejjeeomkaaGreat

namespace Go.Proofs.YtnbpiejjeeomkaaGreat
open Go.Proofs Go.Aw Go.RowKit
set_option maxRecDepth 100000
set_option linter.unusedVariables false
set_option linter.unusedSimpArgs false

def F220 (a0 : (Int × Int × Int) × (Int × Int × Int) × Int × Int × Int) : (Int × Int × Int) × (Int × Int × Int) × Int × Int × Int :=
  a0

theorem C220 (a0 : (Int × Int × Int) × (Int × Int × Int) × Int × Int × Int) : Con Tryz.prog 220 [(.a (k9 a0))] [] (.a (k9 (F220 a0))) [] := by
  refine con_s Tryz.func220 (by kernel_rfl) fun cx hcx => ?_
  have e := Eq.refl (F220 a0); conv at e => rhs; simp only [F220]
  rw [e]
  exact rt [] [] [] hcx (by kernel_rfl)

def F221 (a0 : Int) : Int :=
  (Int.fdiv a0 (2 ^ (min (Int.toNat 1) 64)))

theorem C221 (a0 : Int) : Con Tryz.prog 221 [(iv a0)] [] (iv (F221 a0)) [] := by
  refine con_s Tryz.func221 (by kernel_rfl) fun cx hcx => ?_
  have e := Eq.refl (F221 a0); conv at e => rhs; simp only [F221]
  rw [e]
  exact rt [.p (show 0 ≤ (1 : Int) from by decide)] [] [] hcx (by kernel_rfl)

noncomputable def B57_L_L_0 : Code := (loopAtD [1, 1, 0, 1] [] (bodyOf Tryz.f57) []).1
noncomputable def K57_L_L_0 : List K := (loopAtD [1, 1, 0, 1] [] (bodyOf Tryz.f57) []).2

def st57_L_L_0 (a0 : List (((Int × Int × Int) × (Int × Int × Int) × Int × Int × Int) × Int)) (a1 : List (Int)) (v2c : List SV) (v2n : Nat) (v3 : Int) : LS := ⟨slN 23 [(0, (.s 0 0 a0.length 10)), (5, (.s 2 0 v2n 10)), (8, (.s 1 0 a1.length 1)), (9, (iv ((a1.length : Nat) : Int))), (10, (iv v3))], [(.live false true (flat c85 a0)), (.live false true (flat c3 a1)), (.live true true v2c)]⟩

def S57_L_L_0 (a0 : List (((Int × Int × Int) × (Int × Int × Int) × Int × Int × Int) × Int)) (a1 : List (Int)) : (List (((Int × Int × Int) × (Int × Int × Int) × Int × Int × Int) × Int)) × Int → ((List (((Int × Int × Int) × (Int × Int × Int) × Int × Int × Int) × Int)) × Int) ⊕ (List (((Int × Int × Int) × (Int × Int × Int) × Int × Int × Int) × Int))
  | (v2, v3) =>
   (bif (decide ((v3 : Int) < ((a1.length : Nat) : Int))) then
    (.inl ((v2 ++ [(a0.getD (Int.toNat (a1.getD (Int.toNat v3) default)) default)]), (v3 + 1)))
   else
    (.inr v2))

set_option maxHeartbeats 4000000 in
theorem L57_L_L_0 (a0 : List (((Int × Int × Int) × (Int × Int × Int) × Int × Int × Int) × Int)) (a1 : List (Int)) (l0 : a0.length ≤ 9223372036854775807) (l1 : a1.length ≤ 9223372036854775807) (hir : InR a0.length a1) (hl : a1.length ≤ 1048576) {cx : Cx} (hcx : cx.base = 2) : ∀ (n : Nat) (v2 : List (((Int × Int × Int) × (Int × Int × Int) × Int × Int × Int) × Int)) (v3 : Int), (0 ≤ v3) ∧ (v2.length = Int.toNat v3) ∧ (v3 ≤ a1.length) → Int.toNat (((a1.length : Nat) : Int) - v3) < n → Aw.Good Tryz.prog none 9 (bodyPost Tryz.prog Tryz.f57 (RR cx (.s 2 0 (loopF (S57_L_L_0 a0 a1) n (v2, v3)).length 10) [(.live true true (flat c85 (loopF (S57_L_L_0 a0 a1) n (v2, v3))))] [])) cx [] (.l B57_L_L_0 n :: K57_L_L_0) (st57_L_L_0 a0 a1 (flat c85 v2) v2.length v3) := by
  intro n
  induction n with
  | zero => intro v2 v3 hi hn; exact absurd hn (Nat.not_lt_zero _)
  | succ n ih =>
    intro v2 v3 hi hn
    refine good_round ?_
    try have hr1 := hir.at (i := Int.toNat v3) (by have _ := h0; omega)
    cases h0 : (decide ((v3 : Int) < ((a1.length : Nat) : Int))) with
    | true =>
     have q0 := of_decide_eq_true h0
     try have hr1 := hir.at (i := Int.toNat v3) (by have _ := h0; omega)
     have e := Eq.refl (S57_L_L_0 a0 a1 (v2, v3)); conv at e => rhs; simp only [S57_L_L_0, h0, cond_true, cond_false]
     rw [loopF_inl e]
     refine ba [.d h0, .i v3 (a1.length), .L c3_len a1 v3 0 1, .i (a1.getD (Int.toNat v3) default) (a0.length), .L c85_len a0 (a1.getD (Int.toNat v3) default) 0 10, .p (show ((flat c85 v2).length = v2.length * 10 ∧ v2.length + 1 ≤ 2 ^ 40 ∧ (v2.length + 1) * 80 ≤ 2 ^ 47) from app_ok c85_len (by omega) (by omega))] [] [0, 5, 8, 9, 10] [4] hcx (m := n) B57_L_L_0 (K57_L_L_0) (st57_L_L_0 a0 a1 (flat c85 v2 ++ [(iv (a0.getD (Int.toNat (a1.getD (Int.toNat v3) default)) default).1.1.1), (iv (a0.getD (Int.toNat (a1.getD (Int.toNat v3) default)) default).1.1.2.1), (iv (a0.getD (Int.toNat (a1.getD (Int.toNat v3) default)) default).1.1.2.2), (iv (a0.getD (Int.toNat (a1.getD (Int.toNat v3) default)) default).1.2.1.1), (iv (a0.getD (Int.toNat (a1.getD (Int.toNat v3) default)) default).1.2.1.2.1), (iv (a0.getD (Int.toNat (a1.getD (Int.toNat v3) default)) default).1.2.1.2.2), (iv (a0.getD (Int.toNat (a1.getD (Int.toNat v3) default)) default).1.2.2.1), (iv (a0.getD (Int.toNat (a1.getD (Int.toNat v3) default)) default).1.2.2.2.1), (iv (a0.getD (Int.toNat (a1.getD (Int.toNat v3) default)) default).1.2.2.2.2), (iv (a0.getD (Int.toNat (a1.getD (Int.toNat v3) default)) default).2)]) (v2.length + 1) (W (v3 + 1))) (by kernel_rfl) ?_
     have z0 : (W (v3 + 1)) = (v3 + 1) := W_eq (by omega) (by omega)
     have z1 : (flat c85 v2 ++ [(iv (a0.getD (Int.toNat (a1.getD (Int.toNat v3) default)) default).1.1.1), (iv (a0.getD (Int.toNat (a1.getD (Int.toNat v3) default)) default).1.1.2.1), (iv (a0.getD (Int.toNat (a1.getD (Int.toNat v3) default)) default).1.1.2.2), (iv (a0.getD (Int.toNat (a1.getD (Int.toNat v3) default)) default).1.2.1.1), (iv (a0.getD (Int.toNat (a1.getD (Int.toNat v3) default)) default).1.2.1.2.1), (iv (a0.getD (Int.toNat (a1.getD (Int.toNat v3) default)) default).1.2.1.2.2), (iv (a0.getD (Int.toNat (a1.getD (Int.toNat v3) default)) default).1.2.2.1), (iv (a0.getD (Int.toNat (a1.getD (Int.toNat v3) default)) default).1.2.2.2.1), (iv (a0.getD (Int.toNat (a1.getD (Int.toNat v3) default)) default).1.2.2.2.2), (iv (a0.getD (Int.toNat (a1.getD (Int.toNat v3) default)) default).2)]) = (flat c85 (v2 ++ [(a0.getD (Int.toNat (a1.getD (Int.toNat v3) default)) default)])) := (flat_append (c := c85) (l := v2) (m := [(a0.getD (Int.toNat (a1.getD (Int.toNat v3) default)) default)])).symm
     have z2 : (v2.length + 1) = (v2 ++ [(a0.getD (Int.toNat (a1.getD (Int.toNat v3) default)) default)]).length := len_app v2 [(a0.getD (Int.toNat (a1.getD (Int.toNat v3) default)) default)] rfl
     rw [z0, z1, z2]
     exact ih (v2 ++ [(a0.getD (Int.toNat (a1.getD (Int.toNat v3) default)) default)]) (v3 + 1) (by refine ⟨?_, ?_, ?_⟩ <;> (try simp only [List.length_append, List.length_cons, List.length_nil, Int.toNat_zero]) <;> first | omega | assumption | simp) (by (try simp only [List.length_append, List.length_cons, List.length_nil, Int.toNat_zero]); omega)
    | false =>
     have q0 := of_decide_eq_false h0
     try have hr1 := hir.at (i := Int.toNat v3) (by have _ := h0; omega)
     have e := Eq.refl (S57_L_L_0 a0 a1 (v2, v3)); conv at e => rhs; simp only [S57_L_L_0, h0, cond_true, cond_false]
     rw [loopF_s, e]
     exact rt [.d h0] [] [2] hcx (by kernel_rfl)

def F57_L_L (a0 : List (((Int × Int × Int) × (Int × Int × Int) × Int × Int × Int) × Int)) (a1 : List (Int)) : List (((Int × Int × Int) × (Int × Int × Int) × Int × Int × Int) × Int) :=
  (loopF (S57_L_L_0 a0 a1) (Int.toNat (((a1.length : Nat) : Int) - 0) + 1) (([] : List (((Int × Int × Int) × (Int × Int × Int) × Int × Int × Int) × Int)), 0))

theorem C57_L_L (a0 : List (((Int × Int × Int) × (Int × Int × Int) × Int × Int × Int) × Int)) (a1 : List (Int)) (l0 : a0.length ≤ 9223372036854775807) (l1 : a1.length ≤ 9223372036854775807) (hir : InR a0.length a1) (hl : a1.length ≤ 1048576) : Con Tryz.prog 57 [(.s 0 0 a0.length 10), (.s 1 0 a1.length 1)] [(.live false true (flat c85 a0)), (.live false true (flat c3 a1))] (.s 2 0 (F57_L_L a0 a1).length 10) [(.live true true (flat c85 (F57_L_L a0 a1)))] := by
  refine con_s Tryz.func57 (by kernel_rfl) fun cx hcx => ?_
  have e := Eq.refl (F57_L_L a0 a1); conv at e => rhs; simp only [F57_L_L]
  rw [e]
  refine en [] [.slot 5 10] [0, 5, 8, 9, 10] [2] hcx B57_L_L_0 (K57_L_L_0) (st57_L_L_0 a0 a1 (flat c85 ([] : List (((Int × Int × Int) × (Int × Int × Int) × Int × Int × Int) × Int))) 0 0) (Int.toNat (((a1.length : Nat) : Int) - 0) + 1) (by kernel_rfl) ?_
  exact L57_L_L_0 a0 a1 l0 l1 hir hl hcx (Int.toNat (((a1.length : Nat) : Int) - 0) + 1) ([] : List (((Int × Int × Int) × (Int × Int × Int) × Int × Int × Int) × Int)) 0 (by refine ⟨?_, ?_, ?_⟩ <;> (try simp only [List.length_append, List.length_cons, List.length_nil, Int.toNat_zero]) <;> first | omega | assumption | simp) (by (try simp only [List.length_append, List.length_cons, List.length_nil, Int.toNat_zero]); omega)

noncomputable def B179_L_0 : Code := (loopAtD [1, 1, 0, 1] [] (bodyOf Tryz.f179) []).1
noncomputable def K179_L_0 : List K := (loopAtD [1, 1, 0, 1] [] (bodyOf Tryz.f179) []).2

def st179_L_0 (a0 : List (((Int × Int × Int) × (Int × Int × Int) × Int × Int × Int) × Int)) (v1 : Int) (v2 : Int) (v3 : Int) (v4 : Int) (v5 : Int) (v6 : Int) (v7 : Int) : LS := ⟨slN 84 [(2, (.p 1 0)), (3, (.p 2 0)), (4, (.p 3 0)), (19, (.s 0 0 a0.length 10)), (20, (iv ((a0.length : Nat) : Int))), (21, (iv v1))], [(.live false true (flat c85 a0)), (.live true false [(iv 0), (iv 0), (iv 0)]), (.live true false [(iv v2), (iv v3), (iv v4)]), (.live true false [(iv v5), (iv v6), (iv v7)])]⟩

def S179_L_0 (a0 : List (((Int × Int × Int) × (Int × Int × Int) × Int × Int × Int) × Int)) : Int × Int × Int × Int × Int × Int × Int → (Int × Int × Int × Int × Int × Int × Int) ⊕ (Int × Int × Int)
  | (v1, v2, v3, v4, v5, v6, v7) =>
   (bif (decide ((v1 : Int) < ((a0.length : Nat) : Int))) then
    (.inl ((v1 + 1), (imn (imn (imn v2 (F220 (a0.getD (Int.toNat v1) default).1).1.1) (F220 (a0.getD (Int.toNat v1) default).1).2.1.1) (F220 (a0.getD (Int.toNat v1) default).1).2.2.1), (imn (imn (imn v3 (F220 (a0.getD (Int.toNat v1) default).1).1.2.1) (F220 (a0.getD (Int.toNat v1) default).1).2.1.2.1) (F220 (a0.getD (Int.toNat v1) default).1).2.2.2.1), (imn (imn (imn v4 (F220 (a0.getD (Int.toNat v1) default).1).1.2.2) (F220 (a0.getD (Int.toNat v1) default).1).2.1.2.2) (F220 (a0.getD (Int.toNat v1) default).1).2.2.2.2), (imx (imx (imx v5 (F220 (a0.getD (Int.toNat v1) default).1).1.1) (F220 (a0.getD (Int.toNat v1) default).1).2.1.1) (F220 (a0.getD (Int.toNat v1) default).1).2.2.1), (imx (imx (imx v6 (F220 (a0.getD (Int.toNat v1) default).1).1.2.1) (F220 (a0.getD (Int.toNat v1) default).1).2.1.2.1) (F220 (a0.getD (Int.toNat v1) default).1).2.2.2.1), (imx (imx (imx v7 (F220 (a0.getD (Int.toNat v1) default).1).1.2.2) (F220 (a0.getD (Int.toNat v1) default).1).2.1.2.2) (F220 (a0.getD (Int.toNat v1) default).1).2.2.2.2)))
   else
    (.inr ((F221 (W (v2 + v5))), (F221 (W (v3 + v6))), (F221 (W (v4 + v7))))))

set_option maxHeartbeats 4000000 in
theorem L179_L_0 (a0 : List (((Int × Int × Int) × (Int × Int × Int) × Int × Int × Int) × Int)) (l0 : a0.length ≤ 9223372036854775807) (hl : 1 ≤ a0.length ∧ a0.length ≤ 1048576) {cx : Cx} (hcx : cx.base = 1) : ∀ (n : Nat) (v1 : Int) (v2 : Int) (v3 : Int) (v4 : Int) (v5 : Int) (v6 : Int) (v7 : Int), (0 ≤ v1) ∧ (v1 ≤ a0.length) → Int.toNat (((a0.length : Nat) : Int) - v1) < n → Aw.Good Tryz.prog none 9 (bodyPost Tryz.prog Tryz.f179 (RR cx (.a (k3 (loopF (S179_L_0 a0) n (v1, v2, v3, v4, v5, v6, v7)))) [] [])) cx [] (.l B179_L_0 n :: K179_L_0) (st179_L_0 a0 v1 v2 v3 v4 v5 v6 v7) := by
  intro n
  induction n with
  | zero => intro v1 v2 v3 v4 v5 v6 v7 hi hn; exact absurd hn (Nat.not_lt_zero _)
  | succ n ih =>
    intro v1 v2 v3 v4 v5 v6 v7 hi hn
    refine good_round ?_
    cases h0 : (decide ((v1 : Int) < ((a0.length : Nat) : Int))) with
    | true =>
     have q0 := of_decide_eq_true h0
     have e := Eq.refl (S179_L_0 a0 (v1, v2, v3, v4, v5, v6, v7)); conv at e => rhs; simp only [S179_L_0, h0, cond_true, cond_false]
     rw [loopF_inl e]
     refine ba [.d h0, .i v1 (a0.length), .L c85_len a0 v1 0 10, .c [] (C220 (a0.getD (Int.toNat v1) default).1), .u 200, .T, .i 0 3 (by decide), .u 0, .T, .i 1 3 (by decide), .u 0, .T, .i 2 3 (by decide), .u 0, .F] [] [2, 3, 4, 19, 20, 21] [1, 2, 3] hcx (m := n) B179_L_0 (K179_L_0) (st179_L_0 a0 (W (v1 + 1)) (imn (imn (imn v2 (F220 (a0.getD (Int.toNat v1) default).1).1.1) (F220 (a0.getD (Int.toNat v1) default).1).2.1.1) (F220 (a0.getD (Int.toNat v1) default).1).2.2.1) (imn (imn (imn v3 (F220 (a0.getD (Int.toNat v1) default).1).1.2.1) (F220 (a0.getD (Int.toNat v1) default).1).2.1.2.1) (F220 (a0.getD (Int.toNat v1) default).1).2.2.2.1) (imn (imn (imn v4 (F220 (a0.getD (Int.toNat v1) default).1).1.2.2) (F220 (a0.getD (Int.toNat v1) default).1).2.1.2.2) (F220 (a0.getD (Int.toNat v1) default).1).2.2.2.2) (imx (imx (imx v5 (F220 (a0.getD (Int.toNat v1) default).1).1.1) (F220 (a0.getD (Int.toNat v1) default).1).2.1.1) (F220 (a0.getD (Int.toNat v1) default).1).2.2.1) (imx (imx (imx v6 (F220 (a0.getD (Int.toNat v1) default).1).1.2.1) (F220 (a0.getD (Int.toNat v1) default).1).2.1.2.1) (F220 (a0.getD (Int.toNat v1) default).1).2.2.2.1) (imx (imx (imx v7 (F220 (a0.getD (Int.toNat v1) default).1).1.2.2) (F220 (a0.getD (Int.toNat v1) default).1).2.1.2.2) (F220 (a0.getD (Int.toNat v1) default).1).2.2.2.2)) (by kernel_rfl) ?_
     have z0 : (W (v1 + 1)) = (v1 + 1) := W_eq (by omega) (by omega)
     rw [z0]
     exact ih (v1 + 1) (imn (imn (imn v2 (F220 (a0.getD (Int.toNat v1) default).1).1.1) (F220 (a0.getD (Int.toNat v1) default).1).2.1.1) (F220 (a0.getD (Int.toNat v1) default).1).2.2.1) (imn (imn (imn v3 (F220 (a0.getD (Int.toNat v1) default).1).1.2.1) (F220 (a0.getD (Int.toNat v1) default).1).2.1.2.1) (F220 (a0.getD (Int.toNat v1) default).1).2.2.2.1) (imn (imn (imn v4 (F220 (a0.getD (Int.toNat v1) default).1).1.2.2) (F220 (a0.getD (Int.toNat v1) default).1).2.1.2.2) (F220 (a0.getD (Int.toNat v1) default).1).2.2.2.2) (imx (imx (imx v5 (F220 (a0.getD (Int.toNat v1) default).1).1.1) (F220 (a0.getD (Int.toNat v1) default).1).2.1.1) (F220 (a0.getD (Int.toNat v1) default).1).2.2.1) (imx (imx (imx v6 (F220 (a0.getD (Int.toNat v1) default).1).1.2.1) (F220 (a0.getD (Int.toNat v1) default).1).2.1.2.1) (F220 (a0.getD (Int.toNat v1) default).1).2.2.2.1) (imx (imx (imx v7 (F220 (a0.getD (Int.toNat v1) default).1).1.2.2) (F220 (a0.getD (Int.toNat v1) default).1).2.1.2.2) (F220 (a0.getD (Int.toNat v1) default).1).2.2.2.2) (by refine ⟨?_, ?_⟩ <;> (try simp only [List.length_append, List.length_cons, List.length_nil, Int.toNat_zero]) <;> first | omega | assumption | simp) (by (try simp only [List.length_append, List.length_cons, List.length_nil, Int.toNat_zero]); omega)
    | false =>
     have q0 := of_decide_eq_false h0
     have e := Eq.refl (S179_L_0 a0 (v1, v2, v3, v4, v5, v6, v7)); conv at e => rhs; simp only [S179_L_0, h0, cond_true, cond_false]
     rw [loopF_s, e]
     exact rt [.d h0, .c [] (C221 (W (v2 + v5))), .c [] (C221 (W (v3 + v6))), .c [] (C221 (W (v4 + v7)))] [] [] hcx (by kernel_rfl)

def F179_L (a0 : List (((Int × Int × Int) × (Int × Int × Int) × Int × Int × Int) × Int)) : Int × Int × Int :=
  (loopF (S179_L_0 a0) (Int.toNat (((a0.length : Nat) : Int) - 0) + 1) (0, (a0.getD (Int.toNat 0) default).1.1.1, (a0.getD (Int.toNat 0) default).1.1.2.1, (a0.getD (Int.toNat 0) default).1.1.2.2, (a0.getD (Int.toNat 0) default).1.1.1, (a0.getD (Int.toNat 0) default).1.1.2.1, (a0.getD (Int.toNat 0) default).1.1.2.2))

theorem C179_L (a0 : List (((Int × Int × Int) × (Int × Int × Int) × Int × Int × Int) × Int)) (l0 : a0.length ≤ 9223372036854775807) (hl : 1 ≤ a0.length ∧ a0.length ≤ 1048576) : Con Tryz.prog 179 [(.s 0 0 a0.length 10)] [(.live false true (flat c85 a0))] (.a (k3 (F179_L a0))) [] := by
  refine con_s Tryz.func179 (by kernel_rfl) fun cx hcx => ?_
  have e := Eq.refl (F179_L a0); conv at e => rhs; simp only [F179_L]
  rw [e]
  refine en [.i 0 (a0.length), .L c85_len a0 0 0 3, .i 0 (a0.length), .L c85_len a0 0 0 3] [] [2, 3, 4, 19, 20, 21] [1, 2, 3] hcx B179_L_0 (K179_L_0) (st179_L_0 a0 0 ((a0.getD (Int.toNat 0) default).1.1.1) ((a0.getD (Int.toNat 0) default).1.1.2.1) ((a0.getD (Int.toNat 0) default).1.1.2.2) ((a0.getD (Int.toNat 0) default).1.1.1) ((a0.getD (Int.toNat 0) default).1.1.2.1) ((a0.getD (Int.toNat 0) default).1.1.2.2)) (Int.toNat (((a0.length : Nat) : Int) - 0) + 1) (by kernel_rfl) ?_
  exact L179_L_0 a0 l0 hl hcx (Int.toNat (((a0.length : Nat) : Int) - 0) + 1) 0 ((a0.getD (Int.toNat 0) default).1.1.1) ((a0.getD (Int.toNat 0) default).1.1.2.1) ((a0.getD (Int.toNat 0) default).1.1.2.2) ((a0.getD (Int.toNat 0) default).1.1.1) ((a0.getD (Int.toNat 0) default).1.1.2.1) ((a0.getD (Int.toNat 0) default).1.1.2.2) (by refine ⟨?_, ?_⟩ <;> (try simp only [List.length_append, List.length_cons, List.length_nil, Int.toNat_zero]) <;> first | omega | assumption | simp) (by (try simp only [List.length_append, List.length_cons, List.length_nil, Int.toNat_zero]); omega)

def F166 (a0 : Int) (a1 : Int) (a2 : Int) : Bool :=
  (bif (decide ((a1 : Int) ≤ a0)) then
   (decide ((a0 : Int) ≤ a2))
  else
   false)

theorem C166 (a0 : Int) (a1 : Int) (a2 : Int) : Con Tryz.prog 166 [(iv a0), (iv a1), (iv a2)] [] (.v (.bool (F166 a0 a1 a2))) [] := by
  refine con_s Tryz.func166 (by kernel_rfl) fun cx hcx => ?_
  cases h0 : (decide ((a1 : Int) ≤ a0)) with
  | true =>
   have q0 := of_decide_eq_true h0
   have e := Eq.refl (F166 a0 a1 a2); conv at e => rhs; simp only [F166, h0, cond_true, cond_false]
   rw [e]
   exact rt [.d h0] [] [] hcx (by kernel_rfl)
  | false =>
   have q0 := of_decide_eq_false h0
   have e := Eq.refl (F166 a0 a1 a2); conv at e => rhs; simp only [F166, h0, cond_true, cond_false]
   rw [e]
   exact rt [.d h0] [] [] hcx (by kernel_rfl)

def F159 (a0 : Int × Int × Int) (a1 : Int) : Bool :=
  (bif (F166 a0.1 (W (0 - a1)) a1) then
   (bif (F166 a0.2.1 (W (0 - a1)) a1) then
    (F166 a0.2.2 (W (0 - a1)) a1)
   else
    false)
  else
   false)

theorem C159 (a0 : Int × Int × Int) (a1 : Int) : Con Tryz.prog 159 [(.a (k3 a0)), (iv a1)] [] (.v (.bool (F159 a0 a1))) [] := by
  refine con_s Tryz.func159 (by kernel_rfl) fun cx hcx => ?_
  let t0 : List (St Tryz.prog) := [.c [] (C166 a0.1 (W (0 - a1)) a1)]
  cases h0 : (F166 a0.1 (W (0 - a1)) a1) with
  | true =>
   let t1 : List (St Tryz.prog) := (t0 ++ [.d h0, .c [] (C166 a0.2.1 (W (0 - a1)) a1)])
   cases h1 : (F166 a0.2.1 (W (0 - a1)) a1) with
   | true =>
    have e := Eq.refl (F159 a0 a1); conv at e => rhs; simp only [F159, h0, h1, cond_true, cond_false]
    rw [e]
    exact rt (t1 ++ [.d h1, .c [] (C166 a0.2.2 (W (0 - a1)) a1)]) [] [] hcx (by kernel_rfl)
   | false =>
    have e := Eq.refl (F159 a0 a1); conv at e => rhs; simp only [F159, h0, h1, cond_true, cond_false]
    rw [e]
    exact rt (t1 ++ [.d h1]) [] [] hcx (by kernel_rfl)
  | false =>
   have e := Eq.refl (F159 a0 a1); conv at e => rhs; simp only [F159, h0, cond_true, cond_false]
   rw [e]
   exact rt (t0 ++ [.d h0]) [] [] hcx (by kernel_rfl)

def F160 (a0 : Int × Int × Int) (a1 : Int × Int × Int) : Int × Int × Int :=
  ((W (a0.1 - a1.1)), (W (a0.2.1 - a1.2.1)), (W (a0.2.2 - a1.2.2)))

theorem C160 (a0 : Int × Int × Int) (a1 : Int × Int × Int) : Con Tryz.prog 160 [(.a (k3 a0)), (.a (k3 a1))] [] (.a (k3 (F160 a0 a1))) [] := by
  refine con_s Tryz.func160 (by kernel_rfl) fun cx hcx => ?_
  have e := Eq.refl (F160 a0 a1); conv at e => rhs; simp only [F160]
  rw [e]
  exact rt [] [] [] hcx (by kernel_rfl)

def F168 (a0 : Int × Int × Int) (a1 : Int × Int × Int) : Int :=
  (W ((W ((W (a0.1 * a1.1)) + (W (a0.2.1 * a1.2.1)))) + (W (a0.2.2 * a1.2.2))))

theorem C168 (a0 : Int × Int × Int) (a1 : Int × Int × Int) : Con Tryz.prog 168 [(.a (k3 a0)), (.a (k3 a1))] [] (iv (F168 a0 a1)) [] := by
  refine con_s Tryz.func168 (by kernel_rfl) fun cx hcx => ?_
  have e := Eq.refl (F168 a0 a1); conv at e => rhs; simp only [F168]
  rw [e]
  exact rt [] [] [] hcx (by kernel_rfl)

def F106_L (a0 : List (((Int × Int × Int) × (Int × Int × Int) × Int × Int × Int) × Int)) (a1 : Int × Int × Int) : Int :=
  (bif (((F41_L a0) : Int) != 0) then
   (F41_L a0)
  else
   (bif (!(F159 a1 64)) then
    1
   else
    0))

theorem C106_L (a0 : List (((Int × Int × Int) × (Int × Int × Int) × Int × Int × Int) × Int)) (a1 : Int × Int × Int) (l0 : a0.length ≤ 9223372036854775807) : Con Tryz.prog 106 [(.s 0 0 a0.length 10), (.a (k3 a1))] [(.live false true (flat c85 a0))] (iv (F106_L a0 a1)) [] := by
  refine con_s Tryz.func106 (by kernel_rfl) fun cx hcx => ?_
  let t0 : List (St Tryz.prog) := [.c [0] (C41_L a0 (by (try simp only [List.length_append, List.length_cons, List.length_nil, Int.toNat_zero]); omega))]
  cases h0 : (((F41_L a0) : Int) != 0) with
  | true =>
   have q0 := bne_iff_ne.1 h0
   have e := Eq.refl (F106_L a0 a1); conv at e => rhs; simp only [F106_L, h0, cond_true, cond_false]
   rw [e]
   exact rt (t0 ++ [.d h0]) [] [] hcx (by kernel_rfl)
  | false =>
   have q0 := bne_eq_false_iff_eq.1 h0
   let t1 : List (St Tryz.prog) := (t0 ++ [.d h0, .c [] (C159 a1 64)])
   cases h1 : (!(F159 a1 64)) with
   | true =>
    have e := Eq.refl (F106_L a0 a1); conv at e => rhs; simp only [F106_L, h0, h1, cond_true, cond_false]
    rw [e]
    exact rt (t1 ++ [.d h1]) [] [] hcx (by kernel_rfl)
   | false =>
    have e := Eq.refl (F106_L a0 a1); conv at e => rhs; simp only [F106_L, h0, h1, cond_true, cond_false]
    rw [e]
    exact rt (t1 ++ [.d h1]) [] [] hcx (by kernel_rfl)

noncomputable def B180_L_0 : Code := (loopAtD [1, 1, 1, 0, 1] [] (bodyOf Tryz.f180) []).1
noncomputable def K180_L_0 : List K := (loopAtD [1, 1, 1, 0, 1] [] (bodyOf Tryz.f180) []).2

def st180_L_0 (a0 : List (((Int × Int × Int) × (Int × Int × Int) × Int × Int × Int) × Int)) (a1 : Int × Int × Int) (v1 : Int) (v2 : Int) : LS := ⟨slN 49 [(3, (.p 1 0)), (7, (iv v1)), (19, (.s 0 0 a0.length 10)), (20, (iv ((a0.length : Nat) : Int))), (21, (iv v2))], [(.live false true (flat c85 a0)), (.live true false (k3 a1))]⟩

def S180_L_0 (a0 : List (((Int × Int × Int) × (Int × Int × Int) × Int × Int × Int) × Int)) (a1 : Int × Int × Int) : Int × Int → (Int × Int) ⊕ (Int × Int)
  | (v1, v2) =>
   (bif (decide ((v2 : Int) < ((a0.length : Nat) : Int))) then
    (.inl ((imx (imx (imx v1 (F168 (F160 (a0.getD (Int.toNat v2) default).1.1 a1) (F160 (a0.getD (Int.toNat v2) default).1.1 a1))) (F168 (F160 (a0.getD (Int.toNat v2) default).1.2.1 a1) (F160 (a0.getD (Int.toNat v2) default).1.2.1 a1))) (F168 (F160 (a0.getD (Int.toNat v2) default).1.2.2 a1) (F160 (a0.getD (Int.toNat v2) default).1.2.2 a1))), (v2 + 1)))
   else
    (.inr (v1, 0)))

set_option maxHeartbeats 4000000 in
theorem L180_L_0 (a0 : List (((Int × Int × Int) × (Int × Int × Int) × Int × Int × Int) × Int)) (a1 : Int × Int × Int) (l0 : a0.length ≤ 9223372036854775807) (hl : a0.length ≤ 1048576) {cx : Cx} (hcx : cx.base = 1) : ∀ (n : Nat) (v1 : Int) (v2 : Int), (0 ≤ v2) ∧ (v2 ≤ a0.length) → Int.toNat (((a0.length : Nat) : Int) - v2) < n → Aw.Good Tryz.prog none 9 (bodyPost Tryz.prog Tryz.f180 (RR cx (.t (k2 (loopF (S180_L_0 a0 a1) n (v1, v2)))) [] [])) cx [] (.l B180_L_0 n :: K180_L_0) (st180_L_0 a0 a1 v1 v2) := by
  intro n
  induction n with
  | zero => intro v1 v2 hi hn; exact absurd hn (Nat.not_lt_zero _)
  | succ n ih =>
    intro v1 v2 hi hn
    refine good_round ?_
    cases h0 : (decide ((v2 : Int) < ((a0.length : Nat) : Int))) with
    | true =>
     have q0 := of_decide_eq_true h0
     have e := Eq.refl (S180_L_0 a0 a1 (v1, v2)); conv at e => rhs; simp only [S180_L_0, h0, cond_true, cond_false]
     rw [loopF_inl e]
     refine ba [.d h0, .i v2 (a0.length), .L c85_len a0 v2 0 10, .u 200, .T, .i 0 3 (by decide), .c [] (C160 (a0.getD (Int.toNat v2) default).1.1 a1), .c [] (C168 (F160 (a0.getD (Int.toNat v2) default).1.1 a1) (F160 (a0.getD (Int.toNat v2) default).1.1 a1)), .u 0, .T, .i 1 3 (by decide), .c [] (C160 (a0.getD (Int.toNat v2) default).1.2.1 a1), .c [] (C168 (F160 (a0.getD (Int.toNat v2) default).1.2.1 a1) (F160 (a0.getD (Int.toNat v2) default).1.2.1 a1)), .u 0, .T, .i 2 3 (by decide), .c [] (C160 (a0.getD (Int.toNat v2) default).1.2.2 a1), .c [] (C168 (F160 (a0.getD (Int.toNat v2) default).1.2.2 a1) (F160 (a0.getD (Int.toNat v2) default).1.2.2 a1)), .u 0, .F] [] [3, 7, 19, 20, 21] [1] hcx (m := n) B180_L_0 (K180_L_0) (st180_L_0 a0 a1 (imx (imx (imx v1 (F168 (F160 (a0.getD (Int.toNat v2) default).1.1 a1) (F160 (a0.getD (Int.toNat v2) default).1.1 a1))) (F168 (F160 (a0.getD (Int.toNat v2) default).1.2.1 a1) (F160 (a0.getD (Int.toNat v2) default).1.2.1 a1))) (F168 (F160 (a0.getD (Int.toNat v2) default).1.2.2 a1) (F160 (a0.getD (Int.toNat v2) default).1.2.2 a1))) (W (v2 + 1))) (by kernel_rfl) ?_
     have z0 : (W (v2 + 1)) = (v2 + 1) := W_eq (by omega) (by omega)
     rw [z0]
     exact ih (imx (imx (imx v1 (F168 (F160 (a0.getD (Int.toNat v2) default).1.1 a1) (F160 (a0.getD (Int.toNat v2) default).1.1 a1))) (F168 (F160 (a0.getD (Int.toNat v2) default).1.2.1 a1) (F160 (a0.getD (Int.toNat v2) default).1.2.1 a1))) (F168 (F160 (a0.getD (Int.toNat v2) default).1.2.2 a1) (F160 (a0.getD (Int.toNat v2) default).1.2.2 a1))) (v2 + 1) (by refine ⟨?_, ?_⟩ <;> (try simp only [List.length_append, List.length_cons, List.length_nil, Int.toNat_zero]) <;> first | omega | assumption | simp) (by (try simp only [List.length_append, List.length_cons, List.length_nil, Int.toNat_zero]); omega)
    | false =>
     have q0 := of_decide_eq_false h0
     have e := Eq.refl (S180_L_0 a0 a1 (v1, v2)); conv at e => rhs; simp only [S180_L_0, h0, cond_true, cond_false]
     rw [loopF_s, e]
     exact rt [.d h0] [] [] hcx (by kernel_rfl)

def F180_L (a0 : List (((Int × Int × Int) × (Int × Int × Int) × Int × Int × Int) × Int)) (a1 : Int × Int × Int) : Int × Int :=
  (bif (((F106_L a0 a1) : Int) != 0) then
   (0, (F106_L a0 a1))
  else
   (loopF (S180_L_0 a0 a1) (Int.toNat (((a0.length : Nat) : Int) - 0) + 1) (0, 0)))

theorem C180_L (a0 : List (((Int × Int × Int) × (Int × Int × Int) × Int × Int × Int) × Int)) (a1 : Int × Int × Int) (l0 : a0.length ≤ 9223372036854775807) (hl : a0.length ≤ 1048576) : Con Tryz.prog 180 [(.s 0 0 a0.length 10), (.a (k3 a1))] [(.live false true (flat c85 a0))] (.t (k2 (F180_L a0 a1))) [] := by
  refine con_s Tryz.func180 (by kernel_rfl) fun cx hcx => ?_
  let t0 : List (St Tryz.prog) := [.c [0] (C106_L a0 a1 (by (try simp only [List.length_append, List.length_cons, List.length_nil, Int.toNat_zero]); omega))]
  cases h0 : (((F106_L a0 a1) : Int) != 0) with
  | true =>
   have q0 := bne_iff_ne.1 h0
   have e := Eq.refl (F180_L a0 a1); conv at e => rhs; simp only [F180_L, h0, cond_true, cond_false]
   rw [e]
   exact rt (t0 ++ [.d h0]) [] [] hcx (by kernel_rfl)
  | false =>
   have q0 := bne_eq_false_iff_eq.1 h0
   have e := Eq.refl (F180_L a0 a1); conv at e => rhs; simp only [F180_L, h0, cond_true, cond_false]
   rw [e]
   refine en (t0 ++ [.d h0]) [] [3, 7, 19, 20, 21] [1] hcx B180_L_0 (K180_L_0) (st180_L_0 a0 a1 0 0) (Int.toNat (((a0.length : Nat) : Int) - 0) + 1) (by kernel_rfl) ?_
   exact L180_L_0 a0 a1 l0 hl hcx (Int.toNat (((a0.length : Nat) : Int) - 0) + 1) 0 0 (by refine ⟨?_, ?_⟩ <;> (try simp only [List.length_append, List.length_cons, List.length_nil, Int.toNat_zero]) <;> first | omega | assumption | simp) (by (try simp only [List.length_append, List.length_cons, List.length_nil, Int.toNat_zero]); omega)

end Go.Proofs.YtnbpiejjeeomkaaGreat

namespace Go.Proofs.YtnbpiejjeeomkaaGreat
open Go.Proofs Go.Aw Go.RowKit
set_option maxRecDepth 100000
set_option linter.unusedVariables false
set_option linter.unusedSimpArgs false

noncomputable def B182_L_1 : Code := (loopAtD [1, 1, 0, 1, 0, 1, 1, 0, 1, 1, 0, 1] [0] (bodyOf Tryz.f182) []).1
noncomputable def K182_L_1 (m0 : Nat) : List K := (loopAtD [1, 1, 0, 1, 0, 1, 1, 0, 1, 1, 0, 1] [m0] (bodyOf Tryz.f182) []).2

def st182_L_1 (a0 : (List (((Int × Int × Int) × (Int × Int × Int) × Int × Int × Int) × Int)) × Int × List (Int) × List (Int × Int × Int × Int × (Int × Int × Int) × Int)) (a1 : List (Int)) (v15 : Int) (v16 : Int) (v17 : Int) (v18 : Int) (v19 : Int) (v20 : Int) (v21 : Int) : LS := ⟨slN 59 [(0, (.p 0 0)), (1, (.s 4 0 a1.length 1)), (4, (.p 5 0)), (5, (iv v15)), (6, (iv v16)), (7, (iv v17)), (8, (iv v18)), (9, (iv v19)), (12, (iv v20)), (27, (.s 4 0 a1.length 1)), (28, (iv ((a1.length : Nat) : Int))), (29, (iv v21))], [(.live false false [(.s 1 0 a0.1.length 10), (iv a0.2.1), (.s 2 0 a0.2.2.1.length 1), (.s 3 0 a0.2.2.2.length 8)]), (.live false true (flat c85 a0.1)), (.live false true (flat c3 a0.2.2.1)), (.live false true (flat c75 a0.2.2.2)), (.live false true (flat c3 a1)), (.live true false [(.v (.pointer none)), (iv 0)])]⟩

def S182_L_1 (a0 : (List (((Int × Int × Int) × (Int × Int × Int) × Int × Int × Int) × Int)) × Int × List (Int) × List (Int × Int × Int × Int × (Int × Int × Int) × Int)) (a1 : List (Int)) : Int × Int × Int × Int × Int × Int × Int → (Int × Int × Int × Int × Int × Int × Int) ⊕ ((Int × Int × Int) ⊕ (((List (((Int × Int × Int) × (Int × Int × Int) × Int × Int × Int) × Int)) × Int × List (Int) × List (Int × Int × Int × Int × (Int × Int × Int) × Int)) × Int))
  | (v15, v16, v17, v18, v19, v20, v21) =>
   (bif (decide ((v21 : Int) < ((a1.length : Nat) : Int))) then
    (.inl (v15, v16, v17, (if ((F224 (a0.1, a0.2.1, (a0.2.2.1, a0.2.2.2)) (a1.getD (Int.toNat v21) default) v17) : Int) < v18 then (F224 (a0.1, a0.2.1, (a0.2.2.1, a0.2.2.2)) (a1.getD (Int.toNat v21) default) v17) else v18), (if (v19 : Int) < (F224 (a0.1, a0.2.1, (a0.2.2.1, a0.2.2.2)) (a1.getD (Int.toNat v21) default) v17) then (F224 (a0.1, a0.2.1, (a0.2.2.1, a0.2.2.2)) (a1.getD (Int.toNat v21) default) v17) else v19), v20, (v21 + 1)))
   else
    (bif (decide (((W (v19 - v18)) : Int) > v16)) then
     (.inr (.inl (v17, (W (v19 - v18)), (v20 + 1))))
    else
     (.inr (.inl (v15, v16, (v20 + 1))))))

noncomputable def B182_L_0 : Code := (loopAtD [1, 1, 0, 1] [] (bodyOf Tryz.f182) []).1
noncomputable def K182_L_0 : List K := (loopAtD [1, 1, 0, 1] [] (bodyOf Tryz.f182) []).2

def st182_L_0 (a0 : (List (((Int × Int × Int) × (Int × Int × Int) × Int × Int × Int) × Int)) × Int × List (Int) × List (Int × Int × Int × Int × (Int × Int × Int) × Int)) (a1 : List (Int)) (v12 : Int) (v13 : Int) (v14 : Int) : LS := ⟨slN 59 [(0, (.p 0 0)), (1, (.s 4 0 a1.length 1)), (4, (.p 5 0)), (5, (iv v12)), (6, (iv v13)), (12, (iv v14))], [(.live false false [(.s 1 0 a0.1.length 10), (iv a0.2.1), (.s 2 0 a0.2.2.1.length 1), (.s 3 0 a0.2.2.2.length 8)]), (.live false true (flat c85 a0.1)), (.live false true (flat c3 a0.2.2.1)), (.live false true (flat c75 a0.2.2.2)), (.live false true (flat c3 a1)), (.live true false [(.v (.pointer none)), (iv 0)])]⟩

def S182_L_0 (a0 : (List (((Int × Int × Int) × (Int × Int × Int) × Int × Int × Int) × Int)) × Int × List (Int) × List (Int × Int × Int × Int × (Int × Int × Int) × Int)) (a1 : List (Int)) : Int × Int × Int → (Int × Int × Int) ⊕ (((List (((Int × Int × Int) × (Int × Int × Int) × Int × Int × Int) × Int)) × Int × List (Int) × List (Int × Int × Int × Int × (Int × Int × Int) × Int)) × Int)
  | (v12, v13, v14) =>
   (bif (decide ((v14 : Int) < 3)) then
    (loopF (S182_L_1 a0 a1) (Int.toNat (((a1.length : Nat) : Int) - 0) + 1) (v12, v13, v14, (F224 (a0.1, a0.2.1, (a0.2.2.1, a0.2.2.2)) (a1.getD (Int.toNat 0) default) v14), (F224 (a0.1, a0.2.1, (a0.2.2.1, a0.2.2.2)) (a1.getD (Int.toNat 0) default) v14), v14, 0))
   else
    (.inr ((a0.1, a0.2.1, (a0.2.2.1, a0.2.2.2)), v12)))

set_option maxHeartbeats 4000000 in
theorem L182_L_1 (a0 : (List (((Int × Int × Int) × (Int × Int × Int) × Int × Int × Int) × Int)) × Int × List (Int) × List (Int × Int × Int × Int × (Int × Int × Int) × Int)) (a1 : List (Int)) (l0_1 : a0.1.length ≤ 9223372036854775807) (l0_2_2_1 : a0.2.2.1.length ≤ 9223372036854775807) (l0_2_2_2 : a0.2.2.2.length ≤ 9223372036854775807) (l1 : a1.length ≤ 9223372036854775807) (hir : InR a0.1.length a1) (hl : 1 ≤ a1.length ∧ a1.length ≤ 1048576) {cx : Cx} (hcx : cx.base = 5)
    (n0 : Nat) (g0 : ∀ (v12 : Int) (v13 : Int) (v14 : Int), (0 ≤ v14) ∧ (v14 ≤ 3) → Int.toNat (3 - v14) < n0 → Aw.Good Tryz.prog none 9 (bodyPost Tryz.prog Tryz.f182 (RR cx (.a [(.p 0 0), (iv (loopF (S182_L_0 a0 a1) n0 (v12, v13, v14)).2)]) [] [])) cx [] (.l B182_L_0 n0 :: K182_L_0) (st182_L_0 a0 a1 v12 v13 v14)) : ∀ (n : Nat) (v15 : Int) (v16 : Int) (v17 : Int) (v18 : Int) (v19 : Int) (v20 : Int) (v21 : Int), (0 ≤ v21) ∧ (v21 ≤ a1.length) ∧ ((0 ≤ v20)) ∧ ((v20 ≤ 3)) ∧ (v20 < 3) ∧ (Int.toNat (3 - v20) < n0 + 1) → Int.toNat (((a1.length : Nat) : Int) - v21) < n → Aw.Good Tryz.prog none 9 (bodyPost Tryz.prog Tryz.f182 (RR cx (.a [(.p 0 0), (iv (thenF (S182_L_0 a0 a1) n0 (loopF (S182_L_1 a0 a1) n (v15, v16, v17, v18, v19, v20, v21))).2)]) [] [])) cx [] (.l B182_L_1 n :: K182_L_1 n0) (st182_L_1 a0 a1 v15 v16 v17 v18 v19 v20 v21) := by
  intro n
  induction n with
  | zero => intro v15 v16 v17 v18 v19 v20 v21 hi hn; exact absurd hn (Nat.not_lt_zero _)
  | succ n ih =>
    intro v15 v16 v17 v18 v19 v20 v21 hi hn
    refine good_round ?_
    try have hr1 := hir.at (i := Int.toNat v21) (by have _ := h0; omega)
    cases h0 : (decide ((v21 : Int) < ((a1.length : Nat) : Int))) with
    | true =>
     have q0 := of_decide_eq_true h0
     try have hr1 := hir.at (i := Int.toNat v21) (by have _ := h0; omega)
     have e := Eq.refl (S182_L_1 a0 a1 (v15, v16, v17, v18, v19, v20, v21)); conv at e => rhs; simp only [S182_L_1, h0, cond_true, cond_false]
     rw [loopF_inl e]
     refine ba [.d h0, .i v21 (a1.length), .L c3_len a1 v21 0 1, .c [0, 1, 2, 3] (C224 (a0.1, a0.2.1, (a0.2.2.1, a0.2.2.2)) (a1.getD (Int.toNat v21) default) v17 (by (try simp only [List.length_append, List.length_cons, List.length_nil, Int.toNat_zero]); omega) (by (try simp only [List.length_append, List.length_cons, List.length_nil, Int.toNat_zero]); omega) (by (try simp only [List.length_append, List.length_cons, List.length_nil, Int.toNat_zero]); omega) (by (try simp only [List.length_append, List.length_cons, List.length_nil, Int.toNat_zero]); omega)), .c [0, 1, 2, 3] (C224 (a0.1, a0.2.1, (a0.2.2.1, a0.2.2.2)) (a1.getD (Int.toNat v21) default) v17 (by (try simp only [List.length_append, List.length_cons, List.length_nil, Int.toNat_zero]); omega) (by (try simp only [List.length_append, List.length_cons, List.length_nil, Int.toNat_zero]); omega) (by (try simp only [List.length_append, List.length_cons, List.length_nil, Int.toNat_zero]); omega) (by (try simp only [List.length_append, List.length_cons, List.length_nil, Int.toNat_zero]); omega))] [] [0, 1, 4, 5, 6, 7, 8, 9, 12, 27, 28, 29] [5] hcx (m := n) B182_L_1 (K182_L_1 n0) (st182_L_1 a0 a1 v15 v16 v17 (if ((F224 (a0.1, a0.2.1, (a0.2.2.1, a0.2.2.2)) (a1.getD (Int.toNat v21) default) v17) : Int) < v18 then (F224 (a0.1, a0.2.1, (a0.2.2.1, a0.2.2.2)) (a1.getD (Int.toNat v21) default) v17) else v18) (if (v19 : Int) < (F224 (a0.1, a0.2.1, (a0.2.2.1, a0.2.2.2)) (a1.getD (Int.toNat v21) default) v17) then (F224 (a0.1, a0.2.1, (a0.2.2.1, a0.2.2.2)) (a1.getD (Int.toNat v21) default) v17) else v19) v20 (W (v21 + 1))) (by kernel_rfl) ?_
     have z0 : (W (v21 + 1)) = (v21 + 1) := W_eq (by omega) (by omega)
     rw [z0]
     exact ih v15 v16 v17 (if ((F224 (a0.1, a0.2.1, (a0.2.2.1, a0.2.2.2)) (a1.getD (Int.toNat v21) default) v17) : Int) < v18 then (F224 (a0.1, a0.2.1, (a0.2.2.1, a0.2.2.2)) (a1.getD (Int.toNat v21) default) v17) else v18) (if (v19 : Int) < (F224 (a0.1, a0.2.1, (a0.2.2.1, a0.2.2.2)) (a1.getD (Int.toNat v21) default) v17) then (F224 (a0.1, a0.2.1, (a0.2.2.1, a0.2.2.2)) (a1.getD (Int.toNat v21) default) v17) else v19) v20 (v21 + 1) (by refine ⟨?_, ?_, ?_, ?_, ?_, ?_⟩ <;> (try simp only [List.length_append, List.length_cons, List.length_nil, Int.toNat_zero]) <;> first | omega | assumption | exact hi.2.1 | exact hi.2.2.1 | exact hi.2.2.2.1 | exact hi.2.2.2.2.1 | exact hi.2.2.2.2.2.1 | simp) (by (try simp only [List.length_append, List.length_cons, List.length_nil, Int.toNat_zero]); omega)
    | false =>
     have q0 := of_decide_eq_false h0
     try have hr1 := hir.at (i := Int.toNat v21) (by have _ := h0; omega)
     let t1 : List (St Tryz.prog) := [.d h0]
     cases h1 : (decide (((W (v19 - v18)) : Int) > v16)) with
     | true =>
      have q1 := of_decide_eq_true h1
      try have hr1 := hir.at (i := Int.toNat v21) (by have _ := h0; omega)
      have e := Eq.refl (S182_L_1 a0 a1 (v15, v16, v17, v18, v19, v20, v21)); conv at e => rhs; simp only [S182_L_1, h0, h1, cond_true, cond_false]
      rw [loopF_s, e]
      refine ba (t1 ++ [.d h1]) [] [0, 1, 4, 5, 6, 12] [5] hcx (m := n0) B182_L_0 (K182_L_0) (st182_L_0 a0 a1 v17 (W (v19 - v18)) (W (v20 + 1))) (by kernel_rfl) ?_
      have z0 : (W (v20 + 1)) = (v20 + 1) := W_eq (by omega) (by omega)
      rw [z0]
      exact g0 v17 (W (v19 - v18)) (v20 + 1) (by refine ⟨?_, ?_⟩ <;> (try simp only [List.length_append, List.length_cons, List.length_nil, Int.toNat_zero]) <;> first | omega | assumption | simp) (by (try simp only [List.length_append, List.length_cons, List.length_nil, Int.toNat_zero]); omega)
     | false =>
      have q1 := of_decide_eq_false h1
      try have hr1 := hir.at (i := Int.toNat v21) (by have _ := h0; omega)
      have e := Eq.refl (S182_L_1 a0 a1 (v15, v16, v17, v18, v19, v20, v21)); conv at e => rhs; simp only [S182_L_1, h0, h1, cond_true, cond_false]
      rw [loopF_s, e]
      refine ba (t1 ++ [.d h1]) [] [0, 1, 4, 5, 6, 12] [5] hcx (m := n0) B182_L_0 (K182_L_0) (st182_L_0 a0 a1 v15 v16 (W (v20 + 1))) (by kernel_rfl) ?_
      have z0 : (W (v20 + 1)) = (v20 + 1) := W_eq (by omega) (by omega)
      rw [z0]
      exact g0 v15 v16 (v20 + 1) (by refine ⟨?_, ?_⟩ <;> (try simp only [List.length_append, List.length_cons, List.length_nil, Int.toNat_zero]) <;> first | omega | assumption | simp) (by (try simp only [List.length_append, List.length_cons, List.length_nil, Int.toNat_zero]); omega)

set_option maxHeartbeats 4000000 in
theorem L182_L_0 (a0 : (List (((Int × Int × Int) × (Int × Int × Int) × Int × Int × Int) × Int)) × Int × List (Int) × List (Int × Int × Int × Int × (Int × Int × Int) × Int)) (a1 : List (Int)) (l0_1 : a0.1.length ≤ 9223372036854775807) (l0_2_2_1 : a0.2.2.1.length ≤ 9223372036854775807) (l0_2_2_2 : a0.2.2.2.length ≤ 9223372036854775807) (l1 : a1.length ≤ 9223372036854775807) (hir : InR a0.1.length a1) (hl : 1 ≤ a1.length ∧ a1.length ≤ 1048576) {cx : Cx} (hcx : cx.base = 5) : ∀ (n : Nat) (v12 : Int) (v13 : Int) (v14 : Int), (0 ≤ v14) ∧ (v14 ≤ 3) → Int.toNat (3 - v14) < n → Aw.Good Tryz.prog none 9 (bodyPost Tryz.prog Tryz.f182 (RR cx (.a [(.p 0 0), (iv (loopF (S182_L_0 a0 a1) n (v12, v13, v14)).2)]) [] [])) cx [] (.l B182_L_0 n :: K182_L_0) (st182_L_0 a0 a1 v12 v13 v14) := by
  intro n
  induction n with
  | zero => intro v12 v13 v14 hi hn; exact absurd hn (Nat.not_lt_zero _)
  | succ n ih =>
    intro v12 v13 v14 hi hn
    refine good_round ?_
    have hr0 := hir.at (i := 0) (by omega)
    cases h0 : (decide ((v14 : Int) < 3)) with
    | true =>
     have q0 := of_decide_eq_true h0
     have e := Eq.refl (S182_L_0 a0 a1 (v12, v13, v14)); conv at e => rhs; simp only [S182_L_0, h0, cond_true, cond_false]
     rw [loopF_s, e]
     refine en [.d h0, .i 0 (a1.length), .L c3_len a1 0 0 1, .c [0, 1, 2, 3] (C224 (a0.1, a0.2.1, (a0.2.2.1, a0.2.2.2)) (a1.getD (Int.toNat 0) default) v14 (by (try simp only [List.length_append, List.length_cons, List.length_nil, Int.toNat_zero]); omega) (by (try simp only [List.length_append, List.length_cons, List.length_nil, Int.toNat_zero]); omega) (by (try simp only [List.length_append, List.length_cons, List.length_nil, Int.toNat_zero]); omega) (by (try simp only [List.length_append, List.length_cons, List.length_nil, Int.toNat_zero]); omega)), .i 0 (a1.length), .L c3_len a1 0 0 1, .c [0, 1, 2, 3] (C224 (a0.1, a0.2.1, (a0.2.2.1, a0.2.2.2)) (a1.getD (Int.toNat 0) default) v14 (by (try simp only [List.length_append, List.length_cons, List.length_nil, Int.toNat_zero]); omega) (by (try simp only [List.length_append, List.length_cons, List.length_nil, Int.toNat_zero]); omega) (by (try simp only [List.length_append, List.length_cons, List.length_nil, Int.toNat_zero]); omega) (by (try simp only [List.length_append, List.length_cons, List.length_nil, Int.toNat_zero]); omega))] [] [0, 1, 4, 5, 6, 7, 8, 9, 12, 27, 28, 29] [5] hcx B182_L_1 (K182_L_1 n) (st182_L_1 a0 a1 v12 v13 v14 (F224 (a0.1, a0.2.1, (a0.2.2.1, a0.2.2.2)) (a1.getD (Int.toNat 0) default) v14) (F224 (a0.1, a0.2.1, (a0.2.2.1, a0.2.2.2)) (a1.getD (Int.toNat 0) default) v14) v14 0) (Int.toNat (((a1.length : Nat) : Int) - 0) + 1) (by kernel_rfl) ?_
     exact L182_L_1 a0 a1 l0_1 l0_2_2_1 l0_2_2_2 l1 hir hl hcx n ih (Int.toNat (((a1.length : Nat) : Int) - 0) + 1) v12 v13 v14 (F224 (a0.1, a0.2.1, (a0.2.2.1, a0.2.2.2)) (a1.getD (Int.toNat 0) default) v14) (F224 (a0.1, a0.2.1, (a0.2.2.1, a0.2.2.2)) (a1.getD (Int.toNat 0) default) v14) v14 0 (by refine ⟨?_, ?_, ?_, ?_, ?_, ?_⟩ <;> (try simp only [List.length_append, List.length_cons, List.length_nil, Int.toNat_zero]) <;> first | omega | assumption | exact hi.2.1 | exact hi.2.2.1 | exact hi.2.2.2.1 | exact hi.2.2.2.2.1 | exact hi.2.2.2.2.2.1 | simp) (by (try simp only [List.length_append, List.length_cons, List.length_nil, Int.toNat_zero]); omega)
    | false =>
     have q0 := of_decide_eq_false h0
     have e := Eq.refl (S182_L_0 a0 a1 (v12, v13, v14)); conv at e => rhs; simp only [S182_L_0, h0, cond_true, cond_false]
     rw [loopF_s, e]
     exact rt [.d h0] [] [] hcx (by kernel_rfl)

def F182_L (a0 : (List (((Int × Int × Int) × (Int × Int × Int) × Int × Int × Int) × Int)) × Int × List (Int) × List (Int × Int × Int × Int × (Int × Int × Int) × Int)) (a1 : List (Int)) : ((List (((Int × Int × Int) × (Int × Int × Int) × Int × Int × Int) × Int)) × Int × List (Int) × List (Int × Int × Int × Int × (Int × Int × Int) × Int)) × Int :=
  (loopF (S182_L_0 a0 a1) (Int.toNat (3 - 0) + 1) (0, (-1), 0))

theorem C182_L (a0 : (List (((Int × Int × Int) × (Int × Int × Int) × Int × Int × Int) × Int)) × Int × List (Int) × List (Int × Int × Int × Int × (Int × Int × Int) × Int)) (a1 : List (Int)) (l0_1 : a0.1.length ≤ 9223372036854775807) (l0_2_2_1 : a0.2.2.1.length ≤ 9223372036854775807) (l0_2_2_2 : a0.2.2.2.length ≤ 9223372036854775807) (l1 : a1.length ≤ 9223372036854775807) (hir : InR a0.1.length a1) (hl : 1 ≤ a1.length ∧ a1.length ≤ 1048576) : Con Tryz.prog 182 [(.p 0 0), (.s 4 0 a1.length 1)] [(.live false false [(.s 1 0 a0.1.length 10), (iv a0.2.1), (.s 2 0 a0.2.2.1.length 1), (.s 3 0 a0.2.2.2.length 8)]), (.live false true (flat c85 a0.1)), (.live false true (flat c3 a0.2.2.1)), (.live false true (flat c75 a0.2.2.2)), (.live false true (flat c3 a1))] (.a [(.p 0 0), (iv (F182_L a0 a1).2)]) [] := by
  refine con_s Tryz.func182 (by kernel_rfl) fun cx hcx => ?_
  have e := Eq.refl (F182_L a0 a1); conv at e => rhs; simp only [F182_L]
  rw [e]
  refine en [] [] [0, 1, 4, 5, 6, 12] [5] hcx B182_L_0 (K182_L_0) (st182_L_0 a0 a1 0 (-1) 0) (Int.toNat (3 - 0) + 1) (by kernel_rfl) ?_
  exact L182_L_0 a0 a1 l0_1 l0_2_2_1 l0_2_2_2 l1 hir hl hcx (Int.toNat (3 - 0) + 1) 0 (-1) 0 (by refine ⟨?_, ?_⟩ <;> (try simp only [List.length_append, List.length_cons, List.length_nil, Int.toNat_zero]) <;> first | omega | assumption | simp) (by (try simp only [List.length_append, List.length_cons, List.length_nil, Int.toNat_zero]); omega)

end Go.Proofs.YtnbpiejjeeomkaaGreat

namespace Go.Proofs.YtnbpiejjeeomkaaGreat
open Go.Proofs Go.Aw Go.RowKit
set_option maxRecDepth 100000
set_option linter.unusedVariables false
set_option linter.unusedSimpArgs false

/-! ### What is asked of the tree's builder -/
abbrev BU := (List ((((Int × Int × Int) × (Int × Int × Int) × Int × Int × Int) × Int))) × Int × List Int × List (Int × Int × Int × Int × (Int × Int × Int) × Int)
structure PADD (b : BU) (i k : Int) : Prop where
  inr : InR b.1.length b.2.2.1
  rng : 0 ≤ i ∧ i < k ∧ k ≤ b.2.2.1.length ∧ b.2.2.1.length ≤ 1048576
  nds : b.2.2.2.length + 2 * (k - i) ≤ 4194304
  lf : 1 ≤ b.2.1
  few : k - i ≤ 12
theorem InR.part {n : Nat} {l : List Int} (h : InR n l) (a b : Int) : InR n (Aw.part l a b) := fun x hx => h x (List.mem_of_mem_drop (List.mem_of_mem_take hx))
theorem InR.atD {n : Nat} {l : List Int} (h : InR n l) (h0 : 0 < n) (i : Nat) : 0 ≤ l.getD i default ∧ l.getD i default < (n : Int) := by
  by_cases hi : i < l.length
  · exact h.at hi
  · rw [List.getD_eq_getElem?_getD, List.getElem?_eq_none (by omega)]
    exact ⟨Int.le_refl _, by show (0 : Int) < n; omega⟩
theorem InR.swapD {n : Nat} {l : List Int} (h : InR n l) (h0 : 0 < n) {i j p q : Nat} : InR n ((l.set i (l.getD p default)).set j (l.getD q default)) := (h.set (h.atD h0 p)).set (h.atD h0 q)
theorem mem_loop {a0 : List (((Int × Int × Int) × (Int × Int × Int) × Int × Int × Int) × Int)} {a1 : List Int} : ∀ (d i n : Nat) (m : List (((Int × Int × Int) × (Int × Int × Int) × Int × Int × Int) × Int)), d = a1.length - i → i ≤ a1.length → d < n →
    loopF (S57_L_L_0 a0 a1) n (m, (i : Int)) = m ++ (a1.drop i).map (fun a => a0.getD (Int.toNat a) default)
  | 0, i, n, m, hd, hi, hn => by
    obtain ⟨n, rfl⟩ : ∃ m, n = m + 1 := ⟨n - 1, by omega⟩
    have : i = a1.length := by omega
    subst this
    have e : S57_L_L_0 a0 a1 (m, ((a1.length : Nat) : Int)) = .inr m := by
      simp only [S57_L_L_0]; rw [decide_eq_false (Int.lt_irrefl _), cond_false]
    rw [loopF_inr e]; simp
  | d + 1, i, n, m, hd, hi, hn => by
    obtain ⟨n, rfl⟩ : ∃ m, n = m + 1 := ⟨n - 1, by omega⟩
    have e : S57_L_L_0 a0 a1 (m, (i : Int)) = .inl (m ++ [a0.getD (Int.toNat (a1.getD i default)) default], ((i + 1 : Nat) : Int)) := by
      simp only [S57_L_L_0]
      rw [decide_eq_true (show ((i : Nat) : Int) < (a1.length : Nat) by omega), cond_true, Int.toNat_natCast]; rfl
    rw [loopF_inl e, mem_loop d (i + 1) n _ (by omega) (by omega) (by omega), List.drop_eq_getElem_cons (show i < a1.length by omega), List.map_cons]
    simp [List.getD_eq_getElem?_getD, List.getElem?_eq_getElem (show i < a1.length by omega)]
theorem mem_eq (a0 : List (((Int × Int × Int) × (Int × Int × Int) × Int × Int × Int) × Int)) (a1 : List Int) : F57_L_L a0 a1 = a1.map (fun a => a0.getD (Int.toNat a) default) := by
  have := mem_loop (a0 := a0) (a1 := a1) a1.length 0 (Int.toNat (((a1.length : Nat) : Int) - 0) + 1) [] (by omega) (by omega) (by omega)
  exact this
theorem mem_len (a0 : List (((Int × Int × Int) × (Int × Int × Int) × Int × Int × Int) × Int)) (a1 : List Int) : (F57_L_L a0 a1).length = a1.length := by rw [mem_eq]; simp
section
variable {N L : Nat} {a0 : List Int} {o m : Nat} {a1 a2 : Int} {c : BU × Int}
theorem ins_in1 (h0 : 0 < N) (ha : 0 ≤ a1) : ∀ (n : Nat) (v : List Int) (w j : Int), Int.toNat (j - a1) < n → j ≤ 1048576 → v.length = L → InR N v →
    match loopF (S237_W_b183_1 a0 o m a1 a2 c) n (v, w, j) with
    | .inl (v, w2) => v.length = L ∧ InR N v ∧ w2 = w + 1
    | .inr v => v.length = L ∧ InR N v
  | 0, v, w, j, hn, _, _, _ => absurd hn (Nat.not_lt_zero _)
  | n + 1, v, w, j, hn, hj, hl, hi => by
    cases e : S237_W_b183_1 a0 o m a1 a2 c (v, w, j) with
    | inr r =>
      rw [loopF_inr e]
      simp only [S237_W_b183_1] at e
      by_cases h1 : j > a1
      · rw [decide_eq_true h1, cond_true, Bool.cond_eq_ite] at e
        split at e
        · cases e
        · cases e; exact ⟨hl, hi, rfl⟩
      · rw [decide_eq_false h1, cond_false] at e; cases e; exact ⟨hl, hi, rfl⟩
    | inl u =>
      rw [loopF_inl e]
      simp only [S237_W_b183_1] at e
      by_cases h1 : j > a1
      · rw [decide_eq_true h1, cond_true, Bool.cond_eq_ite] at e
        split at e
        · cases e
          rw [W_eq (n := j - 1) (by omega) (by omega)]
          exact ins_in1 h0 ha n _ w (j - 1) (by omega) (by omega) (by simpa using hl) (hi.swapD h0)
        · cases e
      · rw [decide_eq_false h1, cond_false] at e; cases e
theorem ins_in0 (h0 : 0 < N) (ha : 0 ≤ a1) (hb : a2 ≤ 1048576) : ∀ (n : Nat) (v : List Int) (w : Int), Int.toNat (a2 - w) < n → v.length = L → InR N v →
    (loopF (S237_W_b183_0 a0 o m a1 a2 c) n (v, w)).length = L ∧ InR N (loopF (S237_W_b183_0 a0 o m a1 a2 c) n (v, w))
  | 0, v, w, hn, _, _ => absurd hn (Nat.not_lt_zero _)
  | n + 1, v, w, hn, hl, hi => by
    by_cases h1 : w < a2
    · have h := ins_in1 (a0 := a0) (o := o) (m := m) (a2 := a2) (c := c) h0 ha (Int.toNat (w - a1) + 1) v w w (by omega) (by omega) hl hi
      have e : S237_W_b183_0 a0 o m a1 a2 c (v, w) = loopF (S237_W_b183_1 a0 o m a1 a2 c) (Int.toNat (w - a1) + 1) (v, w, w) := by
        simp only [S237_W_b183_0]; rw [decide_eq_true h1, cond_true]
      cases q : loopF (S237_W_b183_1 a0 o m a1 a2 c) (Int.toNat (w - a1) + 1) (v, w, w) with
      | inr r => rw [loopF_inr (e.trans q)]; rw [q] at h; exact h
      | inl u =>
        obtain ⟨u1, u2⟩ := u
        rw [loopF_inl (e.trans q)]; rw [q] at h
        obtain ⟨g1, g2, g3⟩ := h
        subst g3
        exact ins_in0 h0 ha hb n u1 (w + 1) (by omega) g1 g2
    · have e : S237_W_b183_0 a0 o m a1 a2 c (v, w) = .inr v := by
        simp only [S237_W_b183_0]; rw [decide_eq_false h1, cond_false]
      rw [loopF_inr e]; exact ⟨hl, hi⟩
end
theorem srt_in {N : Nat} {l : List Int} {o m : Nat} {c : BU × Int} (h0 : 0 < N) (hm : m ≤ 12) (hi : InR N l) : (F181_W_b183 l o m c).length = l.length ∧ InR N (F181_W_b183 l o m c) := by
  unfold F181_W_b183 F222_W_b183
  have e : ∀ c2 l2, S222_W_b183_0 l o m 0 ((m : Nat) : Int) l2 c2 () = .inr (F237_W_b183 l o m 0 ((m : Nat) : Int) ((c2.1.1, c2.1.2.1, (l, c2.1.2.2.2)), c2.2)) := fun c2 l2 => by
    simp only [S222_W_b183_0]
    rw [decide_eq_true (show W (((m : Nat) : Int) - 0) ≤ 12 by rw [W_eq (by omega) (by omega)]; omega), cond_true]
  rw [loopF_inr (e _ _)]
  unfold F237_W_b183
  exact ins_in0 h0 (by omega) (by omega) _ l _ (by omega) rfl hi
theorem mid_eq {i k : Int} (h : 0 ≤ i ∧ i < k ∧ k ≤ 1048576) : (W (i + (W (Int.tdiv (W ((W (k - i)) + 1)) 2)))) = i + (k - i + 1) / 2 := by
  rw [W_eq (n := k - i) (by omega) (by omega), W_eq (n := k - i + 1) (by omega) (by omega), Int.tdiv_eq_ediv_of_nonneg (by omega), W_eq (n := (k - i + 1) / 2) (by omega) (by omega), W_eq (by omega) (by omega)]

def A128_1 (a0 : (List (((Int × Int × Int) × (Int × Int × Int) × Int × Int × Int) × Int)) × Int × List (Int) × List (Int × Int × Int × Int × (Int × Int × Int) × Int)) (a1 : Int) (a2 : Int) := (F57_L_L a0.1 (Aw.part (a0.2.2.1) a1 a2))

def A128_2 (a0 : (List (((Int × Int × Int) × (Int × Int × Int) × Int × Int × Int) × Int)) × Int × List (Int) × List (Int × Int × Int × Int × (Int × Int × Int) × Int)) (a1 : Int) (a2 : Int) := (F180_L (A128_1 a0 a1 a2) (F179_L (A128_1 a0 a1 a2)))

def A128_3 (a0 : (List (((Int × Int × Int) × (Int × Int × Int) × Int × Int × Int) × Int)) × Int × List (Int) × List (Int × Int × Int × Int × (Int × Int × Int) × Int)) (a1 : Int) (a2 : Int) := (F182_L (a0.1, a0.2.1, (a0.2.2.1, (a0.2.2.2 ++ [(a1, a2, (-1), (-1), (F179_L (A128_1 a0 a1 a2)), (A128_2 a0 a1 a2).1)]))) (Aw.part (a0.2.2.1) a1 a2))

def A128_4 (a0 : (List (((Int × Int × Int) × (Int × Int × Int) × Int × Int × Int) × Int)) × Int × List (Int) × List (Int × Int × Int × Int × (Int × Int × Int) × Int)) (a1 : Int) (a2 : Int) := (F181_W_b183 (a0.2.2.1) (Int.toNat a1) (Int.toNat a2 - Int.toNat a1) ((a0.1, a0.2.1, (a0.2.2.1, (a0.2.2.2 ++ [(a1, a2, (-1), (-1), (F179_L (A128_1 a0 a1 a2)), (A128_2 a0 a1 a2).1)]))), (A128_3 a0 a1 a2).2))

def A128_5 (rr : ((List (((Int × Int × Int) × (Int × Int × Int) × Int × Int × Int) × Int)) × Int × List (Int) × List (Int × Int × Int × Int × (Int × Int × Int) × Int)) → (Int) → (Int) → Int × (List (((Int × Int × Int) × (Int × Int × Int) × Int × Int × Int) × Int)) × Int × List (Int) × List (Int × Int × Int × Int × (Int × Int × Int) × Int)) (a0 : (List (((Int × Int × Int) × (Int × Int × Int) × Int × Int × Int) × Int)) × Int × List (Int) × List (Int × Int × Int × Int × (Int × Int × Int) × Int)) (a1 : Int) (a2 : Int) := (rr (a0.1, a0.2.1, ((A128_4 a0 a1 a2), (a0.2.2.2 ++ [(a1, a2, (-1), (-1), (F179_L (A128_1 a0 a1 a2)), (A128_2 a0 a1 a2).1)]))) a1 (W (a1 + (W (Int.tdiv (W ((W (a2 - a1)) + 1)) 2)))))

def A128_6 (rr : ((List (((Int × Int × Int) × (Int × Int × Int) × Int × Int × Int) × Int)) × Int × List (Int) × List (Int × Int × Int × Int × (Int × Int × Int) × Int)) → (Int) → (Int) → Int × (List (((Int × Int × Int) × (Int × Int × Int) × Int × Int × Int) × Int)) × Int × List (Int) × List (Int × Int × Int × Int × (Int × Int × Int) × Int)) (a0 : (List (((Int × Int × Int) × (Int × Int × Int) × Int × Int × Int) × Int)) × Int × List (Int) × List (Int × Int × Int × Int × (Int × Int × Int) × Int)) (a1 : Int) (a2 : Int) := (rr (a0.1, (A128_5 (rr) a0 a1 a2).2.2.1, ((A128_5 (rr) a0 a1 a2).2.2.2.1, (A128_5 (rr) a0 a1 a2).2.2.2.2)) (W (a1 + (W (Int.tdiv (W ((W (a2 - a1)) + 1)) 2)))) a2)

def R128 : Nat → ((List (((Int × Int × Int) × (Int × Int × Int) × Int × Int × Int) × Int)) × Int × List (Int) × List (Int × Int × Int × Int × (Int × Int × Int) × Int)) → (Int) → (Int) → Int × (List (((Int × Int × Int) × (Int × Int × Int) × Int × Int × Int) × Int)) × Int × List (Int) × List (Int × Int × Int × Int × (Int × Int × Int) × Int)
  | 0, _, _, _ => default
  | nr + 1, a0, a1, a2 =>
  (bif (decide (((W (a2 - a1)) : Int) > a0.2.1)) then
   (((a0.2.2.2.length : Nat) : Int), (a0.1, (A128_6 (R128 nr) a0 a1 a2).2.2.1, ((A128_6 (R128 nr) a0 a1 a2).2.2.2.1, (((A128_6 (R128 nr) a0 a1 a2).2.2.2.2.set (Int.toNat ((a0.2.2.2.length : Nat) : Int)) (((A128_6 (R128 nr) a0 a1 a2).2.2.2.2.getD (Int.toNat ((a0.2.2.2.length : Nat) : Int)) default).1, ((A128_6 (R128 nr) a0 a1 a2).2.2.2.2.getD (Int.toNat ((a0.2.2.2.length : Nat) : Int)) default).2.1, (A128_5 (R128 nr) a0 a1 a2).1, ((A128_6 (R128 nr) a0 a1 a2).2.2.2.2.getD (Int.toNat ((a0.2.2.2.length : Nat) : Int)) default).2.2.2.1, ((A128_6 (R128 nr) a0 a1 a2).2.2.2.2.getD (Int.toNat ((a0.2.2.2.length : Nat) : Int)) default).2.2.2.2.1, ((A128_6 (R128 nr) a0 a1 a2).2.2.2.2.getD (Int.toNat ((a0.2.2.2.length : Nat) : Int)) default).2.2.2.2.2)).set (Int.toNat ((a0.2.2.2.length : Nat) : Int)) ((((A128_6 (R128 nr) a0 a1 a2).2.2.2.2.set (Int.toNat ((a0.2.2.2.length : Nat) : Int)) (((A128_6 (R128 nr) a0 a1 a2).2.2.2.2.getD (Int.toNat ((a0.2.2.2.length : Nat) : Int)) default).1, ((A128_6 (R128 nr) a0 a1 a2).2.2.2.2.getD (Int.toNat ((a0.2.2.2.length : Nat) : Int)) default).2.1, (A128_5 (R128 nr) a0 a1 a2).1, ((A128_6 (R128 nr) a0 a1 a2).2.2.2.2.getD (Int.toNat ((a0.2.2.2.length : Nat) : Int)) default).2.2.2.1, ((A128_6 (R128 nr) a0 a1 a2).2.2.2.2.getD (Int.toNat ((a0.2.2.2.length : Nat) : Int)) default).2.2.2.2.1, ((A128_6 (R128 nr) a0 a1 a2).2.2.2.2.getD (Int.toNat ((a0.2.2.2.length : Nat) : Int)) default).2.2.2.2.2)).getD (Int.toNat ((a0.2.2.2.length : Nat) : Int)) default).1, (((A128_6 (R128 nr) a0 a1 a2).2.2.2.2.set (Int.toNat ((a0.2.2.2.length : Nat) : Int)) (((A128_6 (R128 nr) a0 a1 a2).2.2.2.2.getD (Int.toNat ((a0.2.2.2.length : Nat) : Int)) default).1, ((A128_6 (R128 nr) a0 a1 a2).2.2.2.2.getD (Int.toNat ((a0.2.2.2.length : Nat) : Int)) default).2.1, (A128_5 (R128 nr) a0 a1 a2).1, ((A128_6 (R128 nr) a0 a1 a2).2.2.2.2.getD (Int.toNat ((a0.2.2.2.length : Nat) : Int)) default).2.2.2.1, ((A128_6 (R128 nr) a0 a1 a2).2.2.2.2.getD (Int.toNat ((a0.2.2.2.length : Nat) : Int)) default).2.2.2.2.1, ((A128_6 (R128 nr) a0 a1 a2).2.2.2.2.getD (Int.toNat ((a0.2.2.2.length : Nat) : Int)) default).2.2.2.2.2)).getD (Int.toNat ((a0.2.2.2.length : Nat) : Int)) default).2.1, (((A128_6 (R128 nr) a0 a1 a2).2.2.2.2.set (Int.toNat ((a0.2.2.2.length : Nat) : Int)) (((A128_6 (R128 nr) a0 a1 a2).2.2.2.2.getD (Int.toNat ((a0.2.2.2.length : Nat) : Int)) default).1, ((A128_6 (R128 nr) a0 a1 a2).2.2.2.2.getD (Int.toNat ((a0.2.2.2.length : Nat) : Int)) default).2.1, (A128_5 (R128 nr) a0 a1 a2).1, ((A128_6 (R128 nr) a0 a1 a2).2.2.2.2.getD (Int.toNat ((a0.2.2.2.length : Nat) : Int)) default).2.2.2.1, ((A128_6 (R128 nr) a0 a1 a2).2.2.2.2.getD (Int.toNat ((a0.2.2.2.length : Nat) : Int)) default).2.2.2.2.1, ((A128_6 (R128 nr) a0 a1 a2).2.2.2.2.getD (Int.toNat ((a0.2.2.2.length : Nat) : Int)) default).2.2.2.2.2)).getD (Int.toNat ((a0.2.2.2.length : Nat) : Int)) default).2.2.1, (A128_6 (R128 nr) a0 a1 a2).1, (((A128_6 (R128 nr) a0 a1 a2).2.2.2.2.set (Int.toNat ((a0.2.2.2.length : Nat) : Int)) (((A128_6 (R128 nr) a0 a1 a2).2.2.2.2.getD (Int.toNat ((a0.2.2.2.length : Nat) : Int)) default).1, ((A128_6 (R128 nr) a0 a1 a2).2.2.2.2.getD (Int.toNat ((a0.2.2.2.length : Nat) : Int)) default).2.1, (A128_5 (R128 nr) a0 a1 a2).1, ((A128_6 (R128 nr) a0 a1 a2).2.2.2.2.getD (Int.toNat ((a0.2.2.2.length : Nat) : Int)) default).2.2.2.1, ((A128_6 (R128 nr) a0 a1 a2).2.2.2.2.getD (Int.toNat ((a0.2.2.2.length : Nat) : Int)) default).2.2.2.2.1, ((A128_6 (R128 nr) a0 a1 a2).2.2.2.2.getD (Int.toNat ((a0.2.2.2.length : Nat) : Int)) default).2.2.2.2.2)).getD (Int.toNat ((a0.2.2.2.length : Nat) : Int)) default).2.2.2.2.1, (((A128_6 (R128 nr) a0 a1 a2).2.2.2.2.set (Int.toNat ((a0.2.2.2.length : Nat) : Int)) (((A128_6 (R128 nr) a0 a1 a2).2.2.2.2.getD (Int.toNat ((a0.2.2.2.length : Nat) : Int)) default).1, ((A128_6 (R128 nr) a0 a1 a2).2.2.2.2.getD (Int.toNat ((a0.2.2.2.length : Nat) : Int)) default).2.1, (A128_5 (R128 nr) a0 a1 a2).1, ((A128_6 (R128 nr) a0 a1 a2).2.2.2.2.getD (Int.toNat ((a0.2.2.2.length : Nat) : Int)) default).2.2.2.1, ((A128_6 (R128 nr) a0 a1 a2).2.2.2.2.getD (Int.toNat ((a0.2.2.2.length : Nat) : Int)) default).2.2.2.2.1, ((A128_6 (R128 nr) a0 a1 a2).2.2.2.2.getD (Int.toNat ((a0.2.2.2.length : Nat) : Int)) default).2.2.2.2.2)).getD (Int.toNat ((a0.2.2.2.length : Nat) : Int)) default).2.2.2.2.2)))))
  else
   (((a0.2.2.2.length : Nat) : Int), (a0.1, a0.2.1, (a0.2.2.1, (a0.2.2.2 ++ [(a1, a2, (-1), (-1), (F179_L (A128_1 a0 a1 a2)), (A128_2 a0 a1 a2).1)])))))

def F128 (a0 : (List (((Int × Int × Int) × (Int × Int × Int) × Int × Int × Int) × Int)) × Int × List (Int) × List (Int × Int × Int × Int × (Int × Int × Int) × Int)) (a1 : Int) (a2 : Int) : Int × (List (((Int × Int × Int) × (Int × Int × Int) × Int × Int × Int) × Int)) × Int × List (Int) × List (Int × Int × Int × Int × (Int × Int × Int) × Int) := R128 (Int.toNat (a2 - a1) + 1) a0 a1 a2

structure ADDR (b r : BU) (i k : Int) : Prop where
  pan : r.1 = b.1
  leaf : r.2.1 = b.2.1
  ol : r.2.2.1.length = b.2.2.1.length
  oi : InR b.1.length r.2.2.1
  lo : b.2.2.2.length < r.2.2.2.length
  hi : r.2.2.2.length ≤ b.2.2.2.length + 2 * (k - i) - 1
theorem PADD.pos {b : BU} {i k : Int} (hp : PADD b i k) : 0 < b.1.length := by
  have h := hp.inr.at (i := 0) (by have := hp.rng; omega)
  omega
section
variable {nr : Nat} {b : BU} {i k : Int} (hp : PADD b i k)
include hp
theorem add_4 : (A128_4 b i k).length = b.2.2.1.length ∧ InR b.1.length (A128_4 b i k) :=
  srt_in hp.pos (by have := hp.rng; have := hp.few; omega) hp.inr
theorem pad1 {x : Int × Int × Int × Int × (Int × Int × Int) × Int} (h2 : 2 ≤ k - i) : PADD (b.1, b.2.1, (A128_4 b i k), b.2.2.2 ++ [x]) i (W (i + (W (Int.tdiv (W ((W (k - i)) + 1)) 2)))) := by
  have h := hp.rng; have hn := hp.nds; have hf := hp.few
  rw [mid_eq ⟨h.1, h.2.1, by omega⟩]
  have h4 := add_4 hp
  exact ⟨h4.2, ⟨h.1, by omega, by rw [h4.1]; omega, by rw [h4.1]; omega⟩, by simp only [List.length_append, List.length_cons, List.length_nil]; omega, hp.lf, by omega⟩
end
theorem pad2 {b r : BU} {i k : Int} {o : List Int} {x : Int × Int × Int × Int × (Int × Int × Int) × Int} (hp : PADD b i k) (ho : o.length = b.2.2.1.length) (h2 : 2 ≤ k - i) (hr : ADDR (b.1, b.2.1, o, b.2.2.2 ++ [x]) r i (W (i + (W (Int.tdiv (W ((W (k - i)) + 1)) 2))))) :
    PADD (b.1, r.2.1, r.2.2.1, r.2.2.2) (W (i + (W (Int.tdiv (W ((W (k - i)) + 1)) 2)))) k := by
  have h := hp.rng; have hn := hp.nds; have hf := hp.few
  obtain ⟨g1, g2, g3, g4, g5, g6⟩ := hr
  rw [mid_eq ⟨h.1, h.2.1, by omega⟩] at g6 ⊢
  simp only [List.length_append, List.length_cons, List.length_nil] at g3 g5 g6 g2
  exact ⟨g4, ⟨by omega, by omega, by rw [g3]; omega, by rw [g3]; omega⟩, by simp only; omega, by rw [g2]; exact hp.lf, by omega⟩
theorem add_inv : ∀ (nr : Nat) (b : BU) (i k : Int), PADD b i k → Int.toNat (k - i) < nr → ADDR b (R128 nr b i k).2 i k
  | 0, b, i, k, _, hn => absurd hn (Nat.not_lt_zero _)
  | nr + 1, b, i, k, hp, hn => by
    have h := hp.rng; have hn2 := hp.nds; have hl := hp.lf
    have hW : W (k - i) = k - i := W_eq (by omega) (by omega)
    simp only [R128]
    by_cases h0 : W (k - i) > b.2.1
    · rw [decide_eq_true h0, cond_true]
      have h2 : 2 ≤ k - i := by omega
      have hm := mid_eq ⟨h.1, h.2.1, by omega⟩
      have h5 : ADDR _ (A128_5 (R128 nr) b i k).2 i _ := add_inv nr _ _ _ (pad1 hp h2) (by rw [hm]; omega)
      have h6 : ADDR _ (A128_6 (R128 nr) b i k).2 _ k := add_inv nr _ _ _ (pad2 hp (add_4 hp).1 h2 h5) (by rw [hm]; omega)
      have g3 := h5.ol; have g5 := h5.lo; have g6 := h5.hi; have f3 := h6.ol; have f5 := h6.lo; have f6 := h6.hi
      rw [hm] at g6 f6
      simp only [List.length_append, List.length_cons, List.length_nil] at g3 g5 g6 f3 f5 f6
      refine ⟨rfl, h6.leaf.trans h5.leaf, ?_, h6.oi, ?_, ?_⟩
      · show (A128_6 (R128 nr) b i k).2.2.2.1.length = _
        rw [f3, g3]; exact (add_4 hp).1
      · simp only [List.length_set]; omega
      · simp only [List.length_set]; omega
    · rw [decide_eq_false h0, cond_false]
      exact ⟨rfl, rfl, rfl, hp.inr, by simp, by simp; omega⟩

theorem Cr128 : ∀ (nr : Nat) (a0 : (List (((Int × Int × Int) × (Int × Int × Int) × Int × Int × Int) × Int)) × Int × List (Int) × List (Int × Int × Int × Int × (Int × Int × Int) × Int)) (a1 : Int) (a2 : Int) (l0_1 : a0.1.length ≤ 9223372036854775807) (l0_2_2_1 : a0.2.2.1.length ≤ 9223372036854775807) (l0_2_2_2 : a0.2.2.2.length ≤ 9223372036854775807) (hp : PADD a0 a1 a2), Int.toNat (a2 - a1) < nr → Con Tryz.prog 128 [(.p 0 0), (iv a1), (iv a2)] [(.live true false [(.s 1 0 a0.1.length 10), (iv a0.2.1), (.s 2 0 a0.2.2.1.length 1), (.s 3 0 a0.2.2.2.length 8)]), (.live false true (flat c85 a0.1)), (.live true true (flat c3 a0.2.2.1)), (.live true true (flat c75 a0.2.2.2))] (iv (R128 nr a0 a1 a2).1) [(.live true true (flat c75 (R128 nr a0 a1 a2).2.2.2.2))] [(.live true false [(.s 1 0 a0.1.length 10), (iv (R128 nr a0 a1 a2).2.2.1), (.s 2 0 (R128 nr a0 a1 a2).2.2.2.1.length 1), (.s 4 0 (R128 nr a0 a1 a2).2.2.2.2.length 8)]), .un, (.live true true (flat c3 (R128 nr a0 a1 a2).2.2.2.1)), .dead] := by
  intro nr
  induction nr with
  | zero => intro a0 a1 a2 l0_1 l0_2_2_1 l0_2_2_2 hp hlt; exact absurd hlt (Nat.not_lt_zero _)
  | succ nr ihr =>
  intro a0 a1 a2 l0_1 l0_2_2_1 l0_2_2_2 hp hlt
  refine con_s Tryz.func128 (by kernel_rfl) fun cx hcx => ?_
  have hpr := hp.rng
  have hpn := hp.nds
  have hpl := hp.lf
  have hpf := hp.few
  have hpt := part_len (l := a0.2.2.1) (a := a1) (b := a2) (by omega)
  have hm1 : (A128_1 a0 a1 a2).length = _ := mem_len a0.1 (Aw.part a0.2.2.1 a1 a2)
  have hW : W (a2 - a1) = a2 - a1 := W_eq (by omega) (by omega)
  have hmid := mid_eq (i := a1) (k := a2) (by omega)
  have h4 := add_4 hp
  try have h2 : 2 ≤ a2 - a1 := (fun _ => by omega) h0
  try have h5 : ADDR _ (A128_5 (R128 nr) a0 a1 a2).2 a1 _ := (fun _ => add_inv nr _ _ _ (pad1 hp h2) (by rw [hmid]; omega)) h0
  try have h6 : ADDR _ (A128_6 (R128 nr) a0 a1 a2).2 _ a2 := (fun _ => add_inv nr _ _ _ (pad2 hp (add_4 hp).1 h2 h5) (by rw [hmid]; omega)) h0
  try have g5 := (fun _ => h5.lo) h0
  try have g6 := (fun _ => h5.hi) h0
  try have g3 := (fun _ => h5.ol) h0
  try have f5 := (fun _ => h6.lo) h0
  try have f6 := (fun _ => h6.hi) h0
  try have f3 := (fun _ => h6.ol) h0
  try (have _ := h0; rw [hmid] at g6 f6; simp only [List.length_append, List.length_cons, List.length_nil] at g3 g5 g6 f3 f5 f6)
  let t0 : List (St Tryz.prog) := [.sub a1 a2 (a0.2.2.1.length), .c [1, 2] (show Con Tryz.prog 57 [(.s 0 0 a0.1.length 10), (.s 1 (0 + Int.toNat a1 * 1) (Int.toNat a2 - Int.toNat a1) 1)] [(.live false true (flat c85 a0.1)), (.live false true (flat c3 a0.2.2.1))] (.s 2 0 (A128_1 a0 a1 a2).length 10) [(.live true true (flat c85 (A128_1 a0 a1 a2)))] from Con.part (l := a0.2.2.1) (a := a1) (b := a2) (c := c3) (pre := [(.s 0 0 a0.1.length 10)]) (post := []) (bs1 := [(.live false true (flat c85 a0.1))]) (bs2 := []) 1 c3_len (by omega) rfl (by rfl) (C57_L_L a0.1 (Aw.part (a0.2.2.1) a1 a2) (by (try simp only [List.length_append, List.length_cons, List.length_nil, Int.toNat_zero]); omega) (by (try simp only [List.length_append, List.length_cons, List.length_nil, Int.toNat_zero]); omega) (hp.inr.part a1 a2) (by omega))), .c [4] (C179_L (A128_1 a0 a1 a2) (by (try simp only [List.length_append, List.length_cons, List.length_nil, Int.toNat_zero]); omega) (by omega)), .c [4] (C180_L (A128_1 a0 a1 a2) (F179_L (A128_1 a0 a1 a2)) (by (try simp only [List.length_append, List.length_cons, List.length_nil, Int.toNat_zero]); omega) (by omega)), .p (show ((flat c75 a0.2.2.2).length = a0.2.2.2.length * 8 ∧ a0.2.2.2.length + 1 ≤ 2 ^ 40 ∧ (a0.2.2.2.length + 1) * 64 ≤ 2 ^ 47) from app_ok c75_len (by omega) (by omega))]
  cases h0 : (decide (((W (a2 - a1)) : Int) > a0.2.1)) with
  | true =>
   have q0 := of_decide_eq_true h0
   have h4 := add_4 hp
   try have h2 : 2 ≤ a2 - a1 := (fun _ => by omega) h0
   try have h5 : ADDR _ (A128_5 (R128 nr) a0 a1 a2).2 a1 _ := (fun _ => add_inv nr _ _ _ (pad1 hp h2) (by rw [hmid]; omega)) h0
   try have h6 : ADDR _ (A128_6 (R128 nr) a0 a1 a2).2 _ a2 := (fun _ => add_inv nr _ _ _ (pad2 hp (add_4 hp).1 h2 h5) (by rw [hmid]; omega)) h0
   try have g5 := (fun _ => h5.lo) h0
   try have g6 := (fun _ => h5.hi) h0
   try have g3 := (fun _ => h5.ol) h0
   try have f5 := (fun _ => h6.lo) h0
   try have f6 := (fun _ => h6.hi) h0
   try have f3 := (fun _ => h6.ol) h0
   try (have _ := h0; rw [hmid] at g6 f6; simp only [List.length_append, List.length_cons, List.length_nil] at g3 g5 g6 f3 f5 f6)
   have e := Eq.refl (R128 (nr + 1) a0 a1 a2); conv at e => rhs; simp only [R128, h0, cond_true, cond_false]
   rw [e]
   try dsimp only
   rw [show flat c75 (((A128_6 (R128 nr) a0 a1 a2).2.2.2.2.set (Int.toNat ((a0.2.2.2.length : Nat) : Int)) (((A128_6 (R128 nr) a0 a1 a2).2.2.2.2.getD (Int.toNat ((a0.2.2.2.length : Nat) : Int)) default).1, ((A128_6 (R128 nr) a0 a1 a2).2.2.2.2.getD (Int.toNat ((a0.2.2.2.length : Nat) : Int)) default).2.1, (A128_5 (R128 nr) a0 a1 a2).1, ((A128_6 (R128 nr) a0 a1 a2).2.2.2.2.getD (Int.toNat ((a0.2.2.2.length : Nat) : Int)) default).2.2.2.1, ((A128_6 (R128 nr) a0 a1 a2).2.2.2.2.getD (Int.toNat ((a0.2.2.2.length : Nat) : Int)) default).2.2.2.2.1, ((A128_6 (R128 nr) a0 a1 a2).2.2.2.2.getD (Int.toNat ((a0.2.2.2.length : Nat) : Int)) default).2.2.2.2.2)).set (Int.toNat ((a0.2.2.2.length : Nat) : Int)) ((((A128_6 (R128 nr) a0 a1 a2).2.2.2.2.set (Int.toNat ((a0.2.2.2.length : Nat) : Int)) (((A128_6 (R128 nr) a0 a1 a2).2.2.2.2.getD (Int.toNat ((a0.2.2.2.length : Nat) : Int)) default).1, ((A128_6 (R128 nr) a0 a1 a2).2.2.2.2.getD (Int.toNat ((a0.2.2.2.length : Nat) : Int)) default).2.1, (A128_5 (R128 nr) a0 a1 a2).1, ((A128_6 (R128 nr) a0 a1 a2).2.2.2.2.getD (Int.toNat ((a0.2.2.2.length : Nat) : Int)) default).2.2.2.1, ((A128_6 (R128 nr) a0 a1 a2).2.2.2.2.getD (Int.toNat ((a0.2.2.2.length : Nat) : Int)) default).2.2.2.2.1, ((A128_6 (R128 nr) a0 a1 a2).2.2.2.2.getD (Int.toNat ((a0.2.2.2.length : Nat) : Int)) default).2.2.2.2.2)).getD (Int.toNat ((a0.2.2.2.length : Nat) : Int)) default).1, (((A128_6 (R128 nr) a0 a1 a2).2.2.2.2.set (Int.toNat ((a0.2.2.2.length : Nat) : Int)) (((A128_6 (R128 nr) a0 a1 a2).2.2.2.2.getD (Int.toNat ((a0.2.2.2.length : Nat) : Int)) default).1, ((A128_6 (R128 nr) a0 a1 a2).2.2.2.2.getD (Int.toNat ((a0.2.2.2.length : Nat) : Int)) default).2.1, (A128_5 (R128 nr) a0 a1 a2).1, ((A128_6 (R128 nr) a0 a1 a2).2.2.2.2.getD (Int.toNat ((a0.2.2.2.length : Nat) : Int)) default).2.2.2.1, ((A128_6 (R128 nr) a0 a1 a2).2.2.2.2.getD (Int.toNat ((a0.2.2.2.length : Nat) : Int)) default).2.2.2.2.1, ((A128_6 (R128 nr) a0 a1 a2).2.2.2.2.getD (Int.toNat ((a0.2.2.2.length : Nat) : Int)) default).2.2.2.2.2)).getD (Int.toNat ((a0.2.2.2.length : Nat) : Int)) default).2.1, (((A128_6 (R128 nr) a0 a1 a2).2.2.2.2.set (Int.toNat ((a0.2.2.2.length : Nat) : Int)) (((A128_6 (R128 nr) a0 a1 a2).2.2.2.2.getD (Int.toNat ((a0.2.2.2.length : Nat) : Int)) default).1, ((A128_6 (R128 nr) a0 a1 a2).2.2.2.2.getD (Int.toNat ((a0.2.2.2.length : Nat) : Int)) default).2.1, (A128_5 (R128 nr) a0 a1 a2).1, ((A128_6 (R128 nr) a0 a1 a2).2.2.2.2.getD (Int.toNat ((a0.2.2.2.length : Nat) : Int)) default).2.2.2.1, ((A128_6 (R128 nr) a0 a1 a2).2.2.2.2.getD (Int.toNat ((a0.2.2.2.length : Nat) : Int)) default).2.2.2.2.1, ((A128_6 (R128 nr) a0 a1 a2).2.2.2.2.getD (Int.toNat ((a0.2.2.2.length : Nat) : Int)) default).2.2.2.2.2)).getD (Int.toNat ((a0.2.2.2.length : Nat) : Int)) default).2.2.1, (A128_6 (R128 nr) a0 a1 a2).1, (((A128_6 (R128 nr) a0 a1 a2).2.2.2.2.set (Int.toNat ((a0.2.2.2.length : Nat) : Int)) (((A128_6 (R128 nr) a0 a1 a2).2.2.2.2.getD (Int.toNat ((a0.2.2.2.length : Nat) : Int)) default).1, ((A128_6 (R128 nr) a0 a1 a2).2.2.2.2.getD (Int.toNat ((a0.2.2.2.length : Nat) : Int)) default).2.1, (A128_5 (R128 nr) a0 a1 a2).1, ((A128_6 (R128 nr) a0 a1 a2).2.2.2.2.getD (Int.toNat ((a0.2.2.2.length : Nat) : Int)) default).2.2.2.1, ((A128_6 (R128 nr) a0 a1 a2).2.2.2.2.getD (Int.toNat ((a0.2.2.2.length : Nat) : Int)) default).2.2.2.2.1, ((A128_6 (R128 nr) a0 a1 a2).2.2.2.2.getD (Int.toNat ((a0.2.2.2.length : Nat) : Int)) default).2.2.2.2.2)).getD (Int.toNat ((a0.2.2.2.length : Nat) : Int)) default).2.2.2.2.1, (((A128_6 (R128 nr) a0 a1 a2).2.2.2.2.set (Int.toNat ((a0.2.2.2.length : Nat) : Int)) (((A128_6 (R128 nr) a0 a1 a2).2.2.2.2.getD (Int.toNat ((a0.2.2.2.length : Nat) : Int)) default).1, ((A128_6 (R128 nr) a0 a1 a2).2.2.2.2.getD (Int.toNat ((a0.2.2.2.length : Nat) : Int)) default).2.1, (A128_5 (R128 nr) a0 a1 a2).1, ((A128_6 (R128 nr) a0 a1 a2).2.2.2.2.getD (Int.toNat ((a0.2.2.2.length : Nat) : Int)) default).2.2.2.1, ((A128_6 (R128 nr) a0 a1 a2).2.2.2.2.getD (Int.toNat ((a0.2.2.2.length : Nat) : Int)) default).2.2.2.2.1, ((A128_6 (R128 nr) a0 a1 a2).2.2.2.2.getD (Int.toNat ((a0.2.2.2.length : Nat) : Int)) default).2.2.2.2.2)).getD (Int.toNat ((a0.2.2.2.length : Nat) : Int)) default).2.2.2.2.2)) = (splice (splice (flat c75 (A128_6 (R128 nr) a0 a1 a2).2.2.2.2) (0 + Int.toNat ((a0.2.2.2.length : Nat) : Int) * 8 + 2) [(iv (A128_5 (R128 nr) a0 a1 a2).1)]) (0 + Int.toNat ((a0.2.2.2.length : Nat) : Int) * 8 + 3) [(iv (A128_6 (R128 nr) a0 a1 a2).1)]) from Eq.symm (by rw [show (splice (flat c75 (A128_6 (R128 nr) a0 a1 a2).2.2.2.2) (0 + Int.toNat ((a0.2.2.2.length : Nat) : Int) * 8 + 2) [(iv (A128_5 (R128 nr) a0 a1 a2).1)]) = flat c75 ((A128_6 (R128 nr) a0 a1 a2).2.2.2.2.set (Int.toNat ((a0.2.2.2.length : Nat) : Int)) (((A128_6 (R128 nr) a0 a1 a2).2.2.2.2.getD (Int.toNat ((a0.2.2.2.length : Nat) : Int)) default).1, ((A128_6 (R128 nr) a0 a1 a2).2.2.2.2.getD (Int.toNat ((a0.2.2.2.length : Nat) : Int)) default).2.1, (A128_5 (R128 nr) a0 a1 a2).1, ((A128_6 (R128 nr) a0 a1 a2).2.2.2.2.getD (Int.toNat ((a0.2.2.2.length : Nat) : Int)) default).2.2.2.1, ((A128_6 (R128 nr) a0 a1 a2).2.2.2.2.getD (Int.toNat ((a0.2.2.2.length : Nat) : Int)) default).2.2.2.2.1, ((A128_6 (R128 nr) a0 a1 a2).2.2.2.2.getD (Int.toNat ((a0.2.2.2.length : Nat) : Int)) default).2.2.2.2.2)) from (flat_set c75_len (by first | omega | (simp only [List.length_set]; omega)) (i := Int.toNat ((a0.2.2.2.length : Nat) : Int)) (o := 2) (d := default) (y := (((A128_6 (R128 nr) a0 a1 a2).2.2.2.2.getD (Int.toNat ((a0.2.2.2.length : Nat) : Int)) default).1, ((A128_6 (R128 nr) a0 a1 a2).2.2.2.2.getD (Int.toNat ((a0.2.2.2.length : Nat) : Int)) default).2.1, (A128_5 (R128 nr) a0 a1 a2).1, ((A128_6 (R128 nr) a0 a1 a2).2.2.2.2.getD (Int.toNat ((a0.2.2.2.length : Nat) : Int)) default).2.2.2.1, ((A128_6 (R128 nr) a0 a1 a2).2.2.2.2.getD (Int.toNat ((a0.2.2.2.length : Nat) : Int)) default).2.2.2.2.1, ((A128_6 (R128 nr) a0 a1 a2).2.2.2.2.getD (Int.toNat ((a0.2.2.2.length : Nat) : Int)) default).2.2.2.2.2)) (xs := [(iv (A128_5 (R128 nr) a0 a1 a2).1)]) (Nat.le_of_ble_eq_true rfl) rfl)]; exact flat_set c75_len (by first | omega | (simp only [List.length_set]; omega)) (i := Int.toNat ((a0.2.2.2.length : Nat) : Int)) (o := 3) (d := default) (y := ((((A128_6 (R128 nr) a0 a1 a2).2.2.2.2.set (Int.toNat ((a0.2.2.2.length : Nat) : Int)) (((A128_6 (R128 nr) a0 a1 a2).2.2.2.2.getD (Int.toNat ((a0.2.2.2.length : Nat) : Int)) default).1, ((A128_6 (R128 nr) a0 a1 a2).2.2.2.2.getD (Int.toNat ((a0.2.2.2.length : Nat) : Int)) default).2.1, (A128_5 (R128 nr) a0 a1 a2).1, ((A128_6 (R128 nr) a0 a1 a2).2.2.2.2.getD (Int.toNat ((a0.2.2.2.length : Nat) : Int)) default).2.2.2.1, ((A128_6 (R128 nr) a0 a1 a2).2.2.2.2.getD (Int.toNat ((a0.2.2.2.length : Nat) : Int)) default).2.2.2.2.1, ((A128_6 (R128 nr) a0 a1 a2).2.2.2.2.getD (Int.toNat ((a0.2.2.2.length : Nat) : Int)) default).2.2.2.2.2)).getD (Int.toNat ((a0.2.2.2.length : Nat) : Int)) default).1, (((A128_6 (R128 nr) a0 a1 a2).2.2.2.2.set (Int.toNat ((a0.2.2.2.length : Nat) : Int)) (((A128_6 (R128 nr) a0 a1 a2).2.2.2.2.getD (Int.toNat ((a0.2.2.2.length : Nat) : Int)) default).1, ((A128_6 (R128 nr) a0 a1 a2).2.2.2.2.getD (Int.toNat ((a0.2.2.2.length : Nat) : Int)) default).2.1, (A128_5 (R128 nr) a0 a1 a2).1, ((A128_6 (R128 nr) a0 a1 a2).2.2.2.2.getD (Int.toNat ((a0.2.2.2.length : Nat) : Int)) default).2.2.2.1, ((A128_6 (R128 nr) a0 a1 a2).2.2.2.2.getD (Int.toNat ((a0.2.2.2.length : Nat) : Int)) default).2.2.2.2.1, ((A128_6 (R128 nr) a0 a1 a2).2.2.2.2.getD (Int.toNat ((a0.2.2.2.length : Nat) : Int)) default).2.2.2.2.2)).getD (Int.toNat ((a0.2.2.2.length : Nat) : Int)) default).2.1, (((A128_6 (R128 nr) a0 a1 a2).2.2.2.2.set (Int.toNat ((a0.2.2.2.length : Nat) : Int)) (((A128_6 (R128 nr) a0 a1 a2).2.2.2.2.getD (Int.toNat ((a0.2.2.2.length : Nat) : Int)) default).1, ((A128_6 (R128 nr) a0 a1 a2).2.2.2.2.getD (Int.toNat ((a0.2.2.2.length : Nat) : Int)) default).2.1, (A128_5 (R128 nr) a0 a1 a2).1, ((A128_6 (R128 nr) a0 a1 a2).2.2.2.2.getD (Int.toNat ((a0.2.2.2.length : Nat) : Int)) default).2.2.2.1, ((A128_6 (R128 nr) a0 a1 a2).2.2.2.2.getD (Int.toNat ((a0.2.2.2.length : Nat) : Int)) default).2.2.2.2.1, ((A128_6 (R128 nr) a0 a1 a2).2.2.2.2.getD (Int.toNat ((a0.2.2.2.length : Nat) : Int)) default).2.2.2.2.2)).getD (Int.toNat ((a0.2.2.2.length : Nat) : Int)) default).2.2.1, (A128_6 (R128 nr) a0 a1 a2).1, (((A128_6 (R128 nr) a0 a1 a2).2.2.2.2.set (Int.toNat ((a0.2.2.2.length : Nat) : Int)) (((A128_6 (R128 nr) a0 a1 a2).2.2.2.2.getD (Int.toNat ((a0.2.2.2.length : Nat) : Int)) default).1, ((A128_6 (R128 nr) a0 a1 a2).2.2.2.2.getD (Int.toNat ((a0.2.2.2.length : Nat) : Int)) default).2.1, (A128_5 (R128 nr) a0 a1 a2).1, ((A128_6 (R128 nr) a0 a1 a2).2.2.2.2.getD (Int.toNat ((a0.2.2.2.length : Nat) : Int)) default).2.2.2.1, ((A128_6 (R128 nr) a0 a1 a2).2.2.2.2.getD (Int.toNat ((a0.2.2.2.length : Nat) : Int)) default).2.2.2.2.1, ((A128_6 (R128 nr) a0 a1 a2).2.2.2.2.getD (Int.toNat ((a0.2.2.2.length : Nat) : Int)) default).2.2.2.2.2)).getD (Int.toNat ((a0.2.2.2.length : Nat) : Int)) default).2.2.2.2.1, (((A128_6 (R128 nr) a0 a1 a2).2.2.2.2.set (Int.toNat ((a0.2.2.2.length : Nat) : Int)) (((A128_6 (R128 nr) a0 a1 a2).2.2.2.2.getD (Int.toNat ((a0.2.2.2.length : Nat) : Int)) default).1, ((A128_6 (R128 nr) a0 a1 a2).2.2.2.2.getD (Int.toNat ((a0.2.2.2.length : Nat) : Int)) default).2.1, (A128_5 (R128 nr) a0 a1 a2).1, ((A128_6 (R128 nr) a0 a1 a2).2.2.2.2.getD (Int.toNat ((a0.2.2.2.length : Nat) : Int)) default).2.2.2.1, ((A128_6 (R128 nr) a0 a1 a2).2.2.2.2.getD (Int.toNat ((a0.2.2.2.length : Nat) : Int)) default).2.2.2.2.1, ((A128_6 (R128 nr) a0 a1 a2).2.2.2.2.getD (Int.toNat ((a0.2.2.2.length : Nat) : Int)) default).2.2.2.2.2)).getD (Int.toNat ((a0.2.2.2.length : Nat) : Int)) default).2.2.2.2.2)) (xs := [(iv (A128_6 (R128 nr) a0 a1 a2).1)]) (Nat.le_of_ble_eq_true rfl) rfl)]
   try rw [show List.length (α := Int × Int × Int × Int × (Int × Int × Int) × Int) (((A128_6 (R128 nr) a0 a1 a2).2.2.2.2.set (Int.toNat ((a0.2.2.2.length : Nat) : Int)) (((A128_6 (R128 nr) a0 a1 a2).2.2.2.2.getD (Int.toNat ((a0.2.2.2.length : Nat) : Int)) default).1, ((A128_6 (R128 nr) a0 a1 a2).2.2.2.2.getD (Int.toNat ((a0.2.2.2.length : Nat) : Int)) default).2.1, (A128_5 (R128 nr) a0 a1 a2).1, ((A128_6 (R128 nr) a0 a1 a2).2.2.2.2.getD (Int.toNat ((a0.2.2.2.length : Nat) : Int)) default).2.2.2.1, ((A128_6 (R128 nr) a0 a1 a2).2.2.2.2.getD (Int.toNat ((a0.2.2.2.length : Nat) : Int)) default).2.2.2.2.1, ((A128_6 (R128 nr) a0 a1 a2).2.2.2.2.getD (Int.toNat ((a0.2.2.2.length : Nat) : Int)) default).2.2.2.2.2)).set (Int.toNat ((a0.2.2.2.length : Nat) : Int)) ((((A128_6 (R128 nr) a0 a1 a2).2.2.2.2.set (Int.toNat ((a0.2.2.2.length : Nat) : Int)) (((A128_6 (R128 nr) a0 a1 a2).2.2.2.2.getD (Int.toNat ((a0.2.2.2.length : Nat) : Int)) default).1, ((A128_6 (R128 nr) a0 a1 a2).2.2.2.2.getD (Int.toNat ((a0.2.2.2.length : Nat) : Int)) default).2.1, (A128_5 (R128 nr) a0 a1 a2).1, ((A128_6 (R128 nr) a0 a1 a2).2.2.2.2.getD (Int.toNat ((a0.2.2.2.length : Nat) : Int)) default).2.2.2.1, ((A128_6 (R128 nr) a0 a1 a2).2.2.2.2.getD (Int.toNat ((a0.2.2.2.length : Nat) : Int)) default).2.2.2.2.1, ((A128_6 (R128 nr) a0 a1 a2).2.2.2.2.getD (Int.toNat ((a0.2.2.2.length : Nat) : Int)) default).2.2.2.2.2)).getD (Int.toNat ((a0.2.2.2.length : Nat) : Int)) default).1, (((A128_6 (R128 nr) a0 a1 a2).2.2.2.2.set (Int.toNat ((a0.2.2.2.length : Nat) : Int)) (((A128_6 (R128 nr) a0 a1 a2).2.2.2.2.getD (Int.toNat ((a0.2.2.2.length : Nat) : Int)) default).1, ((A128_6 (R128 nr) a0 a1 a2).2.2.2.2.getD (Int.toNat ((a0.2.2.2.length : Nat) : Int)) default).2.1, (A128_5 (R128 nr) a0 a1 a2).1, ((A128_6 (R128 nr) a0 a1 a2).2.2.2.2.getD (Int.toNat ((a0.2.2.2.length : Nat) : Int)) default).2.2.2.1, ((A128_6 (R128 nr) a0 a1 a2).2.2.2.2.getD (Int.toNat ((a0.2.2.2.length : Nat) : Int)) default).2.2.2.2.1, ((A128_6 (R128 nr) a0 a1 a2).2.2.2.2.getD (Int.toNat ((a0.2.2.2.length : Nat) : Int)) default).2.2.2.2.2)).getD (Int.toNat ((a0.2.2.2.length : Nat) : Int)) default).2.1, (((A128_6 (R128 nr) a0 a1 a2).2.2.2.2.set (Int.toNat ((a0.2.2.2.length : Nat) : Int)) (((A128_6 (R128 nr) a0 a1 a2).2.2.2.2.getD (Int.toNat ((a0.2.2.2.length : Nat) : Int)) default).1, ((A128_6 (R128 nr) a0 a1 a2).2.2.2.2.getD (Int.toNat ((a0.2.2.2.length : Nat) : Int)) default).2.1, (A128_5 (R128 nr) a0 a1 a2).1, ((A128_6 (R128 nr) a0 a1 a2).2.2.2.2.getD (Int.toNat ((a0.2.2.2.length : Nat) : Int)) default).2.2.2.1, ((A128_6 (R128 nr) a0 a1 a2).2.2.2.2.getD (Int.toNat ((a0.2.2.2.length : Nat) : Int)) default).2.2.2.2.1, ((A128_6 (R128 nr) a0 a1 a2).2.2.2.2.getD (Int.toNat ((a0.2.2.2.length : Nat) : Int)) default).2.2.2.2.2)).getD (Int.toNat ((a0.2.2.2.length : Nat) : Int)) default).2.2.1, (A128_6 (R128 nr) a0 a1 a2).1, (((A128_6 (R128 nr) a0 a1 a2).2.2.2.2.set (Int.toNat ((a0.2.2.2.length : Nat) : Int)) (((A128_6 (R128 nr) a0 a1 a2).2.2.2.2.getD (Int.toNat ((a0.2.2.2.length : Nat) : Int)) default).1, ((A128_6 (R128 nr) a0 a1 a2).2.2.2.2.getD (Int.toNat ((a0.2.2.2.length : Nat) : Int)) default).2.1, (A128_5 (R128 nr) a0 a1 a2).1, ((A128_6 (R128 nr) a0 a1 a2).2.2.2.2.getD (Int.toNat ((a0.2.2.2.length : Nat) : Int)) default).2.2.2.1, ((A128_6 (R128 nr) a0 a1 a2).2.2.2.2.getD (Int.toNat ((a0.2.2.2.length : Nat) : Int)) default).2.2.2.2.1, ((A128_6 (R128 nr) a0 a1 a2).2.2.2.2.getD (Int.toNat ((a0.2.2.2.length : Nat) : Int)) default).2.2.2.2.2)).getD (Int.toNat ((a0.2.2.2.length : Nat) : Int)) default).2.2.2.2.1, (((A128_6 (R128 nr) a0 a1 a2).2.2.2.2.set (Int.toNat ((a0.2.2.2.length : Nat) : Int)) (((A128_6 (R128 nr) a0 a1 a2).2.2.2.2.getD (Int.toNat ((a0.2.2.2.length : Nat) : Int)) default).1, ((A128_6 (R128 nr) a0 a1 a2).2.2.2.2.getD (Int.toNat ((a0.2.2.2.length : Nat) : Int)) default).2.1, (A128_5 (R128 nr) a0 a1 a2).1, ((A128_6 (R128 nr) a0 a1 a2).2.2.2.2.getD (Int.toNat ((a0.2.2.2.length : Nat) : Int)) default).2.2.2.1, ((A128_6 (R128 nr) a0 a1 a2).2.2.2.2.getD (Int.toNat ((a0.2.2.2.length : Nat) : Int)) default).2.2.2.2.1, ((A128_6 (R128 nr) a0 a1 a2).2.2.2.2.getD (Int.toNat ((a0.2.2.2.length : Nat) : Int)) default).2.2.2.2.2)).getD (Int.toNat ((a0.2.2.2.length : Nat) : Int)) default).2.2.2.2.2)) = (A128_6 (R128 nr) a0 a1 a2).2.2.2.2.length from by first | simp; done | omega]
   exact rtm (t0 ++ [.d h0, .sub a1 a2 (a0.2.2.1.length), .sub a1 a2 (a0.2.2.1.length), .c [0, 1, 2, 7] (show Con Tryz.prog 182 [(.p 0 0), (.s 2 (0 + Int.toNat a1 * 1) (Int.toNat a2 - Int.toNat a1) 1)] [(.live false false [(.s 1 0 a0.1.length 10), (iv a0.2.1), (.s 2 0 a0.2.2.1.length 1), (.s 3 0 (a0.2.2.2.length + 1) 8)]), (.live false true (flat c85 a0.1)), (.live false true (flat c3 a0.2.2.1)), (.live false true (flat c75 a0.2.2.2 ++ [(iv a1), (iv a2), (iv (-1)), (iv (-1)), (iv (F179_L (A128_1 a0 a1 a2)).1), (iv (F179_L (A128_1 a0 a1 a2)).2.1), (iv (F179_L (A128_1 a0 a1 a2)).2.2), (iv (A128_2 a0 a1 a2).1)]))] (.a [(.p 0 0), (iv (A128_3 a0 a1 a2).2)]) [] from Con.alias (l := a0.2.2.1) (a := a1) (b := a2) (c := c3) (pre := [(.p 0 0)]) (post := []) (bs := [(.live false false [(.s 1 0 a0.1.length 10), (iv a0.2.1), (.s 2 0 a0.2.2.1.length 1), (.s 3 0 (a0.2.2.2.length + 1) 8)]), (.live false true (flat c85 a0.1)), (.live false true (flat c3 a0.2.2.1)), (.live false true (flat c75 a0.2.2.2 ++ [(iv a1), (iv a2), (iv (-1)), (iv (-1)), (iv (F179_L (A128_1 a0 a1 a2)).1), (iv (F179_L (A128_1 a0 a1 a2)).2.1), (iv (F179_L (A128_1 a0 a1 a2)).2.2), (iv (A128_2 a0 a1 a2).1)]))]) 2 c3_len (by omega) rfl (by rfl) (by have q := (C182_L (a0.1, a0.2.1, (a0.2.2.1, (a0.2.2.2 ++ [(a1, a2, (-1), (-1), (F179_L (A128_1 a0 a1 a2)), (A128_2 a0 a1 a2).1)]))) (Aw.part (a0.2.2.1) a1 a2) (by (try simp only [List.length_append, List.length_cons, List.length_nil, Int.toNat_zero]); omega) (by (try simp only [List.length_append, List.length_cons, List.length_nil, Int.toNat_zero]); omega) (by (try simp only [List.length_append, List.length_cons, List.length_nil, Int.toNat_zero]); omega) (by (try simp only [List.length_append, List.length_cons, List.length_nil, Int.toNat_zero]); omega) (hp.inr.part a1 a2) (by omega)); (try dsimp only at q); rw [show flat c75 (a0.2.2.2 ++ [(a1, a2, (-1), (-1), (F179_L (A128_1 a0 a1 a2)), (A128_2 a0 a1 a2).1)]) = (flat c75 a0.2.2.2 ++ [(iv a1), (iv a2), (iv (-1)), (iv (-1)), (iv (F179_L (A128_1 a0 a1 a2)).1), (iv (F179_L (A128_1 a0 a1 a2)).2.1), (iv (F179_L (A128_1 a0 a1 a2)).2.2), (iv (A128_2 a0 a1 a2).1)]) from flat_append] at q; (try rw [show List.length (α := Int × Int × Int × Int × (Int × Int × Int) × Int) (a0.2.2.2 ++ [(a1, a2, (-1), (-1), (F179_L (A128_1 a0 a1 a2)), (A128_2 a0 a1 a2).1)]) = (a0.2.2.2.length + 1) from by first | simp; done | omega] at q); exact q)), .c [2, 0, 1, 7] (by have q := (C181_W_b183 (a0.2.2.1) (Int.toNat a1) (Int.toNat a2 - Int.toNat a1) ((a0.1, a0.2.1, (a0.2.2.1, (a0.2.2.2 ++ [(a1, a2, (-1), (-1), (F179_L (A128_1 a0 a1 a2)), (A128_2 a0 a1 a2).1)]))), (A128_3 a0 a1 a2).2) (by (try simp only [List.length_append, List.length_cons, List.length_nil, Int.toNat_zero]); omega) (by (try simp only [List.length_append, List.length_cons, List.length_nil, Int.toNat_zero]); omega) (by (try simp only [List.length_append, List.length_cons, List.length_nil, Int.toNat_zero]); omega) (by (try simp only [List.length_append, List.length_cons, List.length_nil, Int.toNat_zero]); omega) (by omega) hp.inr (by omega)); (try dsimp only at q); rw [show flat c75 (a0.2.2.2 ++ [(a1, a2, (-1), (-1), (F179_L (A128_1 a0 a1 a2)), (A128_2 a0 a1 a2).1)]) = (flat c75 a0.2.2.2 ++ [(iv a1), (iv a2), (iv (-1)), (iv (-1)), (iv (F179_L (A128_1 a0 a1 a2)).1), (iv (F179_L (A128_1 a0 a1 a2)).2.1), (iv (F179_L (A128_1 a0 a1 a2)).2.2), (iv (A128_2 a0 a1 a2).1)]) from flat_append] at q; (try rw [show List.length (α := Int × Int × Int × Int × (Int × Int × Int) × Int) (a0.2.2.2 ++ [(a1, a2, (-1), (-1), (F179_L (A128_1 a0 a1 a2)), (A128_2 a0 a1 a2).1)]) = (a0.2.2.2.length + 1) from by first | simp; done | omega] at q); exact q), .p (show (2 : Int) ≠ 0 from by decide), .c [0, 1, 2, 7] (by have q := (ihr (a0.1, a0.2.1, ((A128_4 a0 a1 a2), (a0.2.2.2 ++ [(a1, a2, (-1), (-1), (F179_L (A128_1 a0 a1 a2)), (A128_2 a0 a1 a2).1)]))) a1 (W (a1 + (W (Int.tdiv (W ((W (a2 - a1)) + 1)) 2)))) (by (try simp only [List.length_append, List.length_cons, List.length_nil, Int.toNat_zero]); omega) (by (try simp only [List.length_append, List.length_cons, List.length_nil, Int.toNat_zero]); omega) (by (try simp only [List.length_append, List.length_cons, List.length_nil, Int.toNat_zero]); omega) (by first | exact pad1 hp h2 | exact pad2 hp (add_4 hp).1 h2 h5) (by rw [hmid]; omega)); (try dsimp only at q); rw [show flat c75 (a0.2.2.2 ++ [(a1, a2, (-1), (-1), (F179_L (A128_1 a0 a1 a2)), (A128_2 a0 a1 a2).1)]) = (flat c75 a0.2.2.2 ++ [(iv a1), (iv a2), (iv (-1)), (iv (-1)), (iv (F179_L (A128_1 a0 a1 a2)).1), (iv (F179_L (A128_1 a0 a1 a2)).2.1), (iv (F179_L (A128_1 a0 a1 a2)).2.2), (iv (A128_2 a0 a1 a2).1)]) from flat_append] at q; (try rw [show List.length (α := Int) (A128_4 a0 a1 a2) = a0.2.2.1.length from by first | simp; done | omega] at q); (try rw [show List.length (α := Int × Int × Int × Int × (Int × Int × Int) × Int) (a0.2.2.2 ++ [(a1, a2, (-1), (-1), (F179_L (A128_1 a0 a1 a2)), (A128_2 a0 a1 a2).1)]) = (a0.2.2.2.length + 1) from by first | simp; done | omega] at q); exact q), .c [0, 1, 2, 8] (ihr (a0.1, (A128_5 (R128 nr) a0 a1 a2).2.2.1, ((A128_5 (R128 nr) a0 a1 a2).2.2.2.1, (A128_5 (R128 nr) a0 a1 a2).2.2.2.2)) (W (a1 + (W (Int.tdiv (W ((W (a2 - a1)) + 1)) 2)))) a2 (by (try simp only [List.length_append, List.length_cons, List.length_nil, Int.toNat_zero]); omega) (by (try simp only [List.length_append, List.length_cons, List.length_nil, Int.toNat_zero]); omega) (by (try simp only [List.length_append, List.length_cons, List.length_nil, Int.toNat_zero]); omega) (by first | exact pad1 hp h2 | exact pad2 hp (add_4 hp).1 h2 h5) (by rw [hmid]; omega)), .i ((a0.2.2.2.length : Nat) : Int) ((A128_6 (R128 nr) a0 a1 a2).2.2.2.2.length), .p (show ((0 + Int.toNat ((a0.2.2.2.length : Nat) : Int) * 8 + 2) + 1 ≤ (flat c75 (A128_6 (R128 nr) a0 a1 a2).2.2.2.2).length) from (flat_setl c75_len (by first | omega | (simp only [List.length_set]; omega)) (i := Int.toNat ((a0.2.2.2.length : Nat) : Int)) (o := 2) (n := 1) (Nat.le_of_ble_eq_true rfl))), .i ((a0.2.2.2.length : Nat) : Int) ((A128_6 (R128 nr) a0 a1 a2).2.2.2.2.length), .p (show ((0 + Int.toNat ((a0.2.2.2.length : Nat) : Int) * 8 + 3) + 1 ≤ (splice (flat c75 (A128_6 (R128 nr) a0 a1 a2).2.2.2.2) (0 + Int.toNat ((a0.2.2.2.length : Nat) : Int) * 8 + 2) [(iv (A128_5 (R128 nr) a0 a1 a2).1)]).length) from (by rw [show (splice (flat c75 (A128_6 (R128 nr) a0 a1 a2).2.2.2.2) (0 + Int.toNat ((a0.2.2.2.length : Nat) : Int) * 8 + 2) [(iv (A128_5 (R128 nr) a0 a1 a2).1)]) = flat c75 ((A128_6 (R128 nr) a0 a1 a2).2.2.2.2.set (Int.toNat ((a0.2.2.2.length : Nat) : Int)) (((A128_6 (R128 nr) a0 a1 a2).2.2.2.2.getD (Int.toNat ((a0.2.2.2.length : Nat) : Int)) default).1, ((A128_6 (R128 nr) a0 a1 a2).2.2.2.2.getD (Int.toNat ((a0.2.2.2.length : Nat) : Int)) default).2.1, (A128_5 (R128 nr) a0 a1 a2).1, ((A128_6 (R128 nr) a0 a1 a2).2.2.2.2.getD (Int.toNat ((a0.2.2.2.length : Nat) : Int)) default).2.2.2.1, ((A128_6 (R128 nr) a0 a1 a2).2.2.2.2.getD (Int.toNat ((a0.2.2.2.length : Nat) : Int)) default).2.2.2.2.1, ((A128_6 (R128 nr) a0 a1 a2).2.2.2.2.getD (Int.toNat ((a0.2.2.2.length : Nat) : Int)) default).2.2.2.2.2)) from (flat_set c75_len (by first | omega | (simp only [List.length_set]; omega)) (i := Int.toNat ((a0.2.2.2.length : Nat) : Int)) (o := 2) (d := default) (y := (((A128_6 (R128 nr) a0 a1 a2).2.2.2.2.getD (Int.toNat ((a0.2.2.2.length : Nat) : Int)) default).1, ((A128_6 (R128 nr) a0 a1 a2).2.2.2.2.getD (Int.toNat ((a0.2.2.2.length : Nat) : Int)) default).2.1, (A128_5 (R128 nr) a0 a1 a2).1, ((A128_6 (R128 nr) a0 a1 a2).2.2.2.2.getD (Int.toNat ((a0.2.2.2.length : Nat) : Int)) default).2.2.2.1, ((A128_6 (R128 nr) a0 a1 a2).2.2.2.2.getD (Int.toNat ((a0.2.2.2.length : Nat) : Int)) default).2.2.2.2.1, ((A128_6 (R128 nr) a0 a1 a2).2.2.2.2.getD (Int.toNat ((a0.2.2.2.length : Nat) : Int)) default).2.2.2.2.2)) (xs := [(iv (A128_5 (R128 nr) a0 a1 a2).1)]) (Nat.le_of_ble_eq_true rfl) rfl)]; exact flat_setl c75_len (by first | omega | (simp only [List.length_set]; omega)) (i := Int.toNat ((a0.2.2.2.length : Nat) : Int)) (o := 3) (n := 1) (Nat.le_of_ble_eq_true rfl)))]) [] [0, 2, 3] [9] hcx (by kernel_rfl)
  | false =>
   have q0 := of_decide_eq_false h0
   have h4 := add_4 hp
   try have h2 : 2 ≤ a2 - a1 := (fun _ => by omega) h0
   try have h5 : ADDR _ (A128_5 (R128 nr) a0 a1 a2).2 a1 _ := (fun _ => add_inv nr _ _ _ (pad1 hp h2) (by rw [hmid]; omega)) h0
   try have h6 : ADDR _ (A128_6 (R128 nr) a0 a1 a2).2 _ a2 := (fun _ => add_inv nr _ _ _ (pad2 hp (add_4 hp).1 h2 h5) (by rw [hmid]; omega)) h0
   try have g5 := (fun _ => h5.lo) h0
   try have g6 := (fun _ => h5.hi) h0
   try have g3 := (fun _ => h5.ol) h0
   try have f5 := (fun _ => h6.lo) h0
   try have f6 := (fun _ => h6.hi) h0
   try have f3 := (fun _ => h6.ol) h0
   try (have _ := h0; rw [hmid] at g6 f6; simp only [List.length_append, List.length_cons, List.length_nil] at g3 g5 g6 f3 f5 f6)
   have e := Eq.refl (R128 (nr + 1) a0 a1 a2); conv at e => rhs; simp only [R128, h0, cond_true, cond_false]
   rw [e]
   try dsimp only
   rw [show flat c75 (a0.2.2.2 ++ [(a1, a2, (-1), (-1), (F179_L (A128_1 a0 a1 a2)), (A128_2 a0 a1 a2).1)]) = (flat c75 a0.2.2.2 ++ [(iv a1), (iv a2), (iv (-1)), (iv (-1)), (iv (F179_L (A128_1 a0 a1 a2)).1), (iv (F179_L (A128_1 a0 a1 a2)).2.1), (iv (F179_L (A128_1 a0 a1 a2)).2.2), (iv (A128_2 a0 a1 a2).1)]) from flat_append]
   try rw [show List.length (α := Int × Int × Int × Int × (Int × Int × Int) × Int) (a0.2.2.2 ++ [(a1, a2, (-1), (-1), (F179_L (A128_1 a0 a1 a2)), (A128_2 a0 a1 a2).1)]) = (a0.2.2.2.length + 1) from by first | simp; done | omega]
   exact rtm (t0 ++ [.d h0]) [] [0, 2, 3] [7] hcx (by kernel_rfl)

theorem C128 (a0 : (List (((Int × Int × Int) × (Int × Int × Int) × Int × Int × Int) × Int)) × Int × List (Int) × List (Int × Int × Int × Int × (Int × Int × Int) × Int)) (a1 : Int) (a2 : Int) (l0_1 : a0.1.length ≤ 9223372036854775807) (l0_2_2_1 : a0.2.2.1.length ≤ 9223372036854775807) (l0_2_2_2 : a0.2.2.2.length ≤ 9223372036854775807) (hp : PADD a0 a1 a2) : Con Tryz.prog 128 [(.p 0 0), (iv a1), (iv a2)] [(.live true false [(.s 1 0 a0.1.length 10), (iv a0.2.1), (.s 2 0 a0.2.2.1.length 1), (.s 3 0 a0.2.2.2.length 8)]), (.live false true (flat c85 a0.1)), (.live true true (flat c3 a0.2.2.1)), (.live true true (flat c75 a0.2.2.2))] (iv (F128 a0 a1 a2).1) [(.live true true (flat c75 (F128 a0 a1 a2).2.2.2.2))] [(.live true false [(.s 1 0 a0.1.length 10), (iv (F128 a0 a1 a2).2.2.1), (.s 2 0 (F128 a0 a1 a2).2.2.2.1.length 1), (.s 4 0 (F128 a0 a1 a2).2.2.2.2.length 8)]), .un, (.live true true (flat c3 (F128 a0 a1 a2).2.2.2.1)), .dead] := Cr128 (Int.toNat (a2 - a1) + 1) a0 a1 a2 l0_1 l0_2_2_1 l0_2_2_2 hp (Nat.lt_succ_self _)

end Go.Proofs.YtnbpiejjeeomkaaGreat

namespace Go.Proofs.YtnbpiejjeeomkaaGreat
open Go.Proofs Go.Aw Go.RowKit
set_option maxRecDepth 100000
set_option linter.unusedVariables false
set_option linter.unusedSimpArgs false

theorem InR.add {n : Nat} {l : List Int} (h : InR n l) {x : Int} (hx : 0 ≤ x ∧ x < (n : Int)) : InR n (l ++ [x]) := fun y hy => by
  rcases List.mem_append.1 hy with hy | hy
  · exact h y hy
  · rw [List.mem_singleton.1 hy]; exact hx
theorem InR.nil (n : Nat) : InR n [] := fun y hy => by simp at hy

noncomputable def B70_L_0 : Code := (loopAtD [1, 1, 0, 1] [] (bodyOf Tryz.f70) []).1
noncomputable def K70_L_0 : List K := (loopAtD [1, 1, 0, 1] [] (bodyOf Tryz.f70) []).2

def st70_L_0 (a0 : List (((Int × Int × Int) × (Int × Int × Int) × Int × Int × Int) × Int)) (a1 : Int) (v3c : List SV) (v3n : Nat) (v4c : List SV) (v4n : Nat) (v5 : Int) : LS := ⟨slN 40 [(0, (.s 0 0 a0.length 10)), (4, (.p 1 0)), (5, (.p 2 0)), (12, (iv ((a0.length : Nat) : Int))), (13, (iv v5))], [(.live false true (flat c85 a0)), (.live true false [(.v (.slice none 0 0)), (.v (.slice none 0 0))]), (.live true false [(.s 0 0 a0.length 10), (iv a1), (.s 3 0 v3n 1), (.s 4 0 v4n 8)]), (.live true true v3c), (.live true true v4c)]⟩

def S70_L_0 (a0 : List (((Int × Int × Int) × (Int × Int × Int) × Int × Int × Int) × Int)) (a1 : Int) : List (Int) × (List (Int × Int × Int × Int × (Int × Int × Int) × Int)) × Int → (List (Int) × (List (Int × Int × Int × Int × (Int × Int × Int) × Int)) × Int) ⊕ (List (Int) × List (Int × Int × Int × Int × (Int × Int × Int) × Int))
  | (v3, v4, v5) =>
   (bif (decide ((v5 : Int) < ((a0.length : Nat) : Int))) then
    (.inl ((v3 ++ [v5]), v4, (v5 + 1)))
   else
    (bif (decide ((((a0.length : Nat) : Int) : Int) > 0)) then
     (.inr ((F128 (a0, a1, (v3, v4)) 0 ((a0.length : Nat) : Int)).2.2.2.1, (F128 (a0, a1, (v3, v4)) 0 ((a0.length : Nat) : Int)).2.2.2.2))
    else
     (.inr (v3, v4))))

set_option maxHeartbeats 4000000 in
theorem L70_L_0 (a0 : List (((Int × Int × Int) × (Int × Int × Int) × Int × Int × Int) × Int)) (a1 : Int) (l0 : a0.length ≤ 9223372036854775807) (hl : a0.length ≤ 12) (hf : 1 ≤ a1) {cx : Cx} (hcx : cx.base = 1) : ∀ (n : Nat) (v3 : List (Int)) (v4 : List (Int × Int × Int × Int × (Int × Int × Int) × Int)) (v5 : Int), (0 ≤ v5) ∧ (v3.length = Int.toNat v5) ∧ (InR a0.length v3) ∧ (v4.length = 0) ∧ (v5 ≤ a0.length) ∧ (a0.length ≤ 12) ∧ (1 ≤ a1) → Int.toNat (((a0.length : Nat) : Int) - v5) < n → Aw.Good Tryz.prog none 9 (bodyPost Tryz.prog Tryz.f70 (RR cx (.a [(.s 1 0 (loopF (S70_L_0 a0 a1) n (v3, v4, v5)).1.length 1), (.s 2 0 (loopF (S70_L_0 a0 a1) n (v3, v4, v5)).2.length 8)]) [(.live true true (flat c3 (loopF (S70_L_0 a0 a1) n (v3, v4, v5)).1)), (.live true true (flat c75 (loopF (S70_L_0 a0 a1) n (v3, v4, v5)).2))] [])) cx [] (.l B70_L_0 n :: K70_L_0) (st70_L_0 a0 a1 (flat c3 v3) v3.length (flat c75 v4) v4.length v5) := by
  intro n
  induction n with
  | zero => intro v3 v4 v5 hi hn; exact absurd hn (Nat.not_lt_zero _)
  | succ n ih =>
    intro v3 v4 v5 hi hn
    refine good_round ?_
    cases h0 : (decide ((v5 : Int) < ((a0.length : Nat) : Int))) with
    | true =>
     have q0 := of_decide_eq_true h0
     have e := Eq.refl (S70_L_0 a0 a1 (v3, v4, v5)); conv at e => rhs; simp only [S70_L_0, h0, cond_true, cond_false]
     rw [loopF_inl e]
     refine ba [.d h0, .p (show ((flat c3 v3).length = v3.length * 1 ∧ v3.length + 1 ≤ 2 ^ 40 ∧ (v3.length + 1) * 8 ≤ 2 ^ 47) from app_ok c3_len (by omega) (by omega))] [] [0, 4, 5, 12, 13] [1, 2, 6, 4] hcx (m := n) B70_L_0 (K70_L_0) (st70_L_0 a0 a1 (flat c3 v3 ++ [(iv v5)]) (v3.length + 1) (flat c75 v4) (v4.length) (W (v5 + 1))) (by kernel_rfl) ?_
     have z0 : (W (v5 + 1)) = (v5 + 1) := W_eq (by omega) (by omega)
     have z1 : (flat c3 v3 ++ [(iv v5)]) = (flat c3 (v3 ++ [v5])) := (flat_append (c := c3) (l := v3) (m := [v5])).symm
     have z2 : (v3.length + 1) = (v3 ++ [v5]).length := len_app v3 [v5] rfl
     rw [z0, z1, z2]
     exact ih (v3 ++ [v5]) v4 (v5 + 1) (by refine ⟨?_, ?_, ?_, ?_, ?_, ?_, ?_⟩ <;> first | omega | assumption | exact InR.nil _ | exact hi.2.2.1 | exact hi.2.2.1.add (by omega) | (simp only [List.length_append, List.length_cons, List.length_nil, Int.toNat_zero]; omega) | simp) (by (try simp only [List.length_append, List.length_cons, List.length_nil, Int.toNat_zero]); omega)
    | false =>
     have q0 := of_decide_eq_false h0
     let t1 : List (St Tryz.prog) := [.d h0]
     cases h1 : (decide ((((a0.length : Nat) : Int) : Int) > 0)) with
     | true =>
      have q1 := of_decide_eq_true h1
      have e := Eq.refl (S70_L_0 a0 a1 (v3, v4, v5)); conv at e => rhs; simp only [S70_L_0, h0, h1, cond_true, cond_false]
      rw [loopF_s, e]
      exact rt (t1 ++ [.d h1, .c [2, 0, 3, 4] (C128 (a0, a1, (v3, v4)) 0 ((a0.length : Nat) : Int) (by (try simp only [List.length_append, List.length_cons, List.length_nil, Int.toNat_zero]); omega) (by (try simp only [List.length_append, List.length_cons, List.length_nil, Int.toNat_zero]); omega) (by (try simp only [List.length_append, List.length_cons, List.length_nil, Int.toNat_zero]); omega) (by refine ⟨?_, ?_, ?_, ?_, ?_⟩ <;> first | exact hi.2.2.1 | (simp only []; omega) | omega))]) [] [3, 5] hcx (by kernel_rfl)
     | false =>
      have q1 := of_decide_eq_false h1
      have e := Eq.refl (S70_L_0 a0 a1 (v3, v4, v5)); conv at e => rhs; simp only [S70_L_0, h0, h1, cond_true, cond_false]
      rw [loopF_s, e]
      exact rt (t1 ++ [.d h1]) [] [3, 4] hcx (by kernel_rfl)

def F70_L (a0 : List (((Int × Int × Int) × (Int × Int × Int) × Int × Int × Int) × Int)) (a1 : Int) : List (Int) × List (Int × Int × Int × Int × (Int × Int × Int) × Int) :=
  (loopF (S70_L_0 a0 a1) (Int.toNat (((a0.length : Nat) : Int) - 0) + 1) (([] : List (Int)), ([] : List (Int × Int × Int × Int × (Int × Int × Int) × Int)), 0))

theorem C70_L (a0 : List (((Int × Int × Int) × (Int × Int × Int) × Int × Int × Int) × Int)) (a1 : Int) (l0 : a0.length ≤ 9223372036854775807) (hl : a0.length ≤ 12) (hf : 1 ≤ a1) : Con Tryz.prog 70 [(.s 0 0 a0.length 10), (iv a1)] [(.live false true (flat c85 a0))] (.a [(.s 1 0 (F70_L a0 a1).1.length 1), (.s 2 0 (F70_L a0 a1).2.length 8)]) [(.live true true (flat c3 (F70_L a0 a1).1)), (.live true true (flat c75 (F70_L a0 a1).2))] := by
  refine con_s Tryz.func70 (by kernel_rfl) fun cx hcx => ?_
  have e := Eq.refl (F70_L a0 a1); conv at e => rhs; simp only [F70_L]
  rw [e]
  refine en [] [.cell 2 2 1, .cell 2 3 8] [0, 4, 5, 12, 13] [1, 2, 3, 4] hcx B70_L_0 (K70_L_0) (st70_L_0 a0 a1 (flat c3 ([] : List (Int))) 0 (flat c75 ([] : List (Int × Int × Int × Int × (Int × Int × Int) × Int))) 0 0) (Int.toNat (((a0.length : Nat) : Int) - 0) + 1) (by kernel_rfl) ?_
  exact L70_L_0 a0 a1 l0 hl hf hcx (Int.toNat (((a0.length : Nat) : Int) - 0) + 1) ([] : List (Int)) ([] : List (Int × Int × Int × Int × (Int × Int × Int) × Int)) 0 (by refine ⟨?_, ?_, ?_, ?_, ?_, ?_, ?_⟩ <;> first | omega | assumption | exact InR.nil _ | exact hi.2.2.1 | exact hi.2.2.1.add (by omega) | (simp only [List.length_append, List.length_cons, List.length_nil, Int.toNat_zero]; omega) | simp) (by (try simp only [List.length_append, List.length_cons, List.length_nil, Int.toNat_zero]); omega)

end Go.Proofs.YtnbpiejjeeomkaaGreat

namespace Go.Proofs.YtnbpiejjeeomkaaGreat
open Go.Proofs Go.Aw Go.RowKit
set_option maxRecDepth 100000
set_option linter.unusedVariables false
set_option linter.unusedSimpArgs false

noncomputable def B34_0 : Code := (loopAtD [1, 1, 0, 1] [] (bodyOf Tryz.f34) []).1
noncomputable def K34_0 : List K := (loopAtD [1, 1, 0, 1] [] (bodyOf Tryz.f34) []).2

def st34_0 (a0 : List (Int) × List (Int × Int × Int × Int × (Int × Int × Int) × Int)) (v1 : Int) (v2 : Int) : LS := ⟨slN 20 [(3, (iv v1)), (7, (.s 1 0 a0.2.length 8)), (8, (iv ((a0.2.length : Nat) : Int))), (9, (iv v2))], [(.live false true (flat c3 a0.1)), (.live false true (flat c75 a0.2))]⟩

def S34_0 (a0 : List (Int) × List (Int × Int × Int × Int × (Int × Int × Int) × Int)) : Int × Int → (Int × Int) ⊕ (Int)
  | (v1, v2) =>
   (bif (decide ((v2 : Int) < ((a0.2.length : Nat) : Int))) then
    (bif (decide (((a0.2.getD (Int.toNat v2) default).2.2.1 : Int) < 0)) then
     (.inl ((W (v1 + 1)), (v2 + 1)))
    else
     (.inl (v1, (v2 + 1))))
   else
    (.inr v1))

set_option maxHeartbeats 4000000 in
theorem L34_0 (a0 : List (Int) × List (Int × Int × Int × Int × (Int × Int × Int) × Int)) (l0_1 : a0.1.length ≤ 9223372036854775807) (l0_2 : a0.2.length ≤ 9223372036854775807) (hl : a0.2.length ≤ 1048576) {cx : Cx} (hcx : cx.base = 2) : ∀ (n : Nat) (v1 : Int) (v2 : Int), 0 ≤ v2 → Int.toNat (((a0.2.length : Nat) : Int) - v2) < n → Aw.Good Tryz.prog none 9 (bodyPost Tryz.prog Tryz.f34 (RR cx (iv (loopF (S34_0 a0) n (v1, v2))) [] [])) cx [] (.l B34_0 n :: K34_0) (st34_0 a0 v1 v2) := by
  intro n
  induction n with
  | zero => intro v1 v2 hi hn; exact absurd hn (Nat.not_lt_zero _)
  | succ n ih =>
    intro v1 v2 hi hn
    refine good_round ?_
    cases h0 : (decide ((v2 : Int) < ((a0.2.length : Nat) : Int))) with
    | true =>
     have q0 := of_decide_eq_true h0
     let t1 : List (St Tryz.prog) := [.d h0, .i v2 (a0.2.length), .L c75_len a0.2 v2 0 8]
     cases h1 : (decide (((a0.2.getD (Int.toNat v2) default).2.2.1 : Int) < 0)) with
     | true =>
      have q1 := of_decide_eq_true h1
      have e := Eq.refl (S34_0 a0 (v1, v2)); conv at e => rhs; simp only [S34_0, h0, h1, cond_true, cond_false]
      rw [loopF_inl e]
      refine ba (t1 ++ [.d h1]) [] [3, 7, 8, 9] [] hcx (m := n) B34_0 (K34_0) (st34_0 a0 (W (v1 + 1)) (W (v2 + 1))) (by kernel_rfl) ?_
      have z0 : (W (v2 + 1)) = (v2 + 1) := W_eq (by omega) (by omega)
      rw [z0]
      exact ih (W (v1 + 1)) (v2 + 1) (by (try simp only [List.length_append, List.length_cons, List.length_nil, Int.toNat_zero]); omega) (by (try simp only [List.length_append, List.length_cons, List.length_nil, Int.toNat_zero]); omega)
     | false =>
      have q1 := of_decide_eq_false h1
      have e := Eq.refl (S34_0 a0 (v1, v2)); conv at e => rhs; simp only [S34_0, h0, h1, cond_true, cond_false]
      rw [loopF_inl e]
      refine ba (t1 ++ [.d h1]) [] [3, 7, 8, 9] [] hcx (m := n) B34_0 (K34_0) (st34_0 a0 v1 (W (v2 + 1))) (by kernel_rfl) ?_
      have z0 : (W (v2 + 1)) = (v2 + 1) := W_eq (by omega) (by omega)
      rw [z0]
      exact ih v1 (v2 + 1) (by (try simp only [List.length_append, List.length_cons, List.length_nil, Int.toNat_zero]); omega) (by (try simp only [List.length_append, List.length_cons, List.length_nil, Int.toNat_zero]); omega)
    | false =>
     have q0 := of_decide_eq_false h0
     have e := Eq.refl (S34_0 a0 (v1, v2)); conv at e => rhs; simp only [S34_0, h0, cond_true, cond_false]
     rw [loopF_s, e]
     exact rt [.d h0] [] [] hcx (by kernel_rfl)

def F34 (a0 : List (Int) × List (Int × Int × Int × Int × (Int × Int × Int) × Int)) : Int :=
  (loopF (S34_0 a0) (Int.toNat (((a0.2.length : Nat) : Int) - 0) + 1) (0, 0))

theorem C34 (a0 : List (Int) × List (Int × Int × Int × Int × (Int × Int × Int) × Int)) (l0_1 : a0.1.length ≤ 9223372036854775807) (l0_2 : a0.2.length ≤ 9223372036854775807) (hl : a0.2.length ≤ 1048576) : Con Tryz.prog 34 [(.a [(.s 0 0 a0.1.length 1), (.s 1 0 a0.2.length 8)])] [(.live false true (flat c3 a0.1)), (.live false true (flat c75 a0.2))] (iv (F34 a0)) [] := by
  refine con_s Tryz.func34 (by kernel_rfl) fun cx hcx => ?_
  have e := Eq.refl (F34 a0); conv at e => rhs; simp only [F34]
  rw [e]
  refine en [] [] [3, 7, 8, 9] [] hcx B34_0 (K34_0) (st34_0 a0 0 0) (Int.toNat (((a0.2.length : Nat) : Int) - 0) + 1) (by kernel_rfl) ?_
  exact L34_0 a0 l0_1 l0_2 hl hcx (Int.toNat (((a0.2.length : Nat) : Int) - 0) + 1) 0 0 (by (try simp only [List.length_append, List.length_cons, List.length_nil, Int.toNat_zero]); omega) (by (try simp only [List.length_append, List.length_cons, List.length_nil, Int.toNat_zero]); omega)

noncomputable def B32_0 : Code := (loopAtD [1, 1, 0, 1] [] (bodyOf Tryz.f32) []).1
noncomputable def K32_0 : List K := (loopAtD [1, 1, 0, 1] [] (bodyOf Tryz.f32) []).2

def st32_0 (v2c : List SV) (v2n : Nat) (v3 : Int) : LS := ⟨slN 23 [(1, (.s 0 0 v2n 10)), (2, (iv v3))], [(.live true true v2c)]⟩

def S32_0 : (List (((Int × Int × Int) × (Int × Int × Int) × Int × Int × Int) × Int)) × Int → ((List (((Int × Int × Int) × (Int × Int × Int) × Int × Int × Int) × Int)) × Int) ⊕ (List (((Int × Int × Int) × (Int × Int × Int) × Int × Int × Int) × Int))
  | (v2, v3) =>
   (bif (decide ((v3 : Int) < 4)) then
    (.inl ((v2 ++ [((((W (9 * v3)), 0, 0), ((W ((W (9 * v3)) + 1)), 0, 0), ((W (9 * v3)), 1, 0)), 1)]), (v3 + 1)))
   else
    (.inr v2))

set_option maxHeartbeats 4000000 in
theorem L32_0 {cx : Cx} (hcx : cx.base = 0) : ∀ (n : Nat) (v2 : List (((Int × Int × Int) × (Int × Int × Int) × Int × Int × Int) × Int)) (v3 : Int), (0 ≤ v3) ∧ (v2.length = Int.toNat v3) ∧ (v3 ≤ 4) → Int.toNat (4 - v3) < n → Aw.Good Tryz.prog none 9 (bodyPost Tryz.prog Tryz.f32 (RR cx (.s 0 0 (loopF (S32_0) n (v2, v3)).length 10) [(.live true true (flat c85 (loopF (S32_0) n (v2, v3))))] [])) cx [] (.l B32_0 n :: K32_0) (st32_0 (flat c85 v2) v2.length v3) := by
  intro n
  induction n with
  | zero => intro v2 v3 hi hn; exact absurd hn (Nat.not_lt_zero _)
  | succ n ih =>
    intro v2 v3 hi hn
    refine good_round ?_
    cases h0 : (decide ((v3 : Int) < 4)) with
    | true =>
     have q0 := of_decide_eq_true h0
     have e := Eq.refl (S32_0 (v2, v3)); conv at e => rhs; simp only [S32_0, h0, cond_true, cond_false]
     rw [loopF_inl e]
     refine ba [.d h0, .p (show ((flat c85 v2).length = v2.length * 10 ∧ v2.length + 1 ≤ 2 ^ 40 ∧ (v2.length + 1) * 80 ≤ 2 ^ 47) from app_ok c85_len (by omega) (by omega))] [] [1, 2] [2] hcx (m := n) B32_0 (K32_0) (st32_0 (flat c85 v2 ++ [(iv (W (9 * v3))), (iv 0), (iv 0), (iv (W ((W (9 * v3)) + 1))), (iv 0), (iv 0), (iv (W (9 * v3))), (iv 1), (iv 0), (iv 1)]) (v2.length + 1) (W (v3 + 1))) (by kernel_rfl) ?_
     have z0 : (W (v3 + 1)) = (v3 + 1) := W_eq (by omega) (by omega)
     have z1 : (flat c85 v2 ++ [(iv (W (9 * v3))), (iv 0), (iv 0), (iv (W ((W (9 * v3)) + 1))), (iv 0), (iv 0), (iv (W (9 * v3))), (iv 1), (iv 0), (iv 1)]) = (flat c85 (v2 ++ [((((W (9 * v3)), 0, 0), ((W ((W (9 * v3)) + 1)), 0, 0), ((W (9 * v3)), 1, 0)), 1)])) := (flat_append (c := c85) (l := v2) (m := [((((W (9 * v3)), 0, 0), ((W ((W (9 * v3)) + 1)), 0, 0), ((W (9 * v3)), 1, 0)), 1)])).symm
     have z2 : (v2.length + 1) = (v2 ++ [((((W (9 * v3)), 0, 0), ((W ((W (9 * v3)) + 1)), 0, 0), ((W (9 * v3)), 1, 0)), 1)]).length := len_app v2 [((((W (9 * v3)), 0, 0), ((W ((W (9 * v3)) + 1)), 0, 0), ((W (9 * v3)), 1, 0)), 1)] rfl
     rw [z0, z1, z2]
     exact ih (v2 ++ [((((W (9 * v3)), 0, 0), ((W ((W (9 * v3)) + 1)), 0, 0), ((W (9 * v3)), 1, 0)), 1)]) (v3 + 1) (by refine ⟨?_, ?_, ?_⟩ <;> (try simp only [List.length_append, List.length_cons, List.length_nil, Int.toNat_zero]) <;> first | omega | assumption | simp) (by (try simp only [List.length_append, List.length_cons, List.length_nil, Int.toNat_zero]); omega)
    | false =>
     have q0 := of_decide_eq_false h0
     have e := Eq.refl (S32_0 (v2, v3)); conv at e => rhs; simp only [S32_0, h0, cond_true, cond_false]
     rw [loopF_s, e]
     exact rt [.d h0] [] [0] hcx (by kernel_rfl)

def F32 : List (((Int × Int × Int) × (Int × Int × Int) × Int × Int × Int) × Int) :=
  (loopF (S32_0) (Int.toNat (4 - 0) + 1) (([] : List (((Int × Int × Int) × (Int × Int × Int) × Int × Int × Int) × Int)), 0))

theorem C32 : Con Tryz.prog 32 [] [] (.s 0 0 F32.length 10) [(.live true true (flat c85 F32))] := by
  refine con_s Tryz.func32 (by kernel_rfl) fun cx hcx => ?_
  have e := Eq.refl F32; conv at e => rhs; simp only [F32]
  rw [e]
  refine en [] [.slot 1 10] [1, 2] [0] hcx B32_0 (K32_0) (st32_0 (flat c85 ([] : List (((Int × Int × Int) × (Int × Int × Int) × Int × Int × Int) × Int))) 0 0) (Int.toNat (4 - 0) + 1) (by kernel_rfl) ?_
  exact L32_0 hcx (Int.toNat (4 - 0) + 1) ([] : List (((Int × Int × Int) × (Int × Int × Int) × Int × Int × Int) × Int)) 0 (by refine ⟨?_, ?_, ?_⟩ <;> (try simp only [List.length_append, List.length_cons, List.length_nil, Int.toNat_zero]) <;> first | omega | assumption | simp) (by (try simp only [List.length_append, List.length_cons, List.length_nil, Int.toNat_zero]); omega)

def F36 (a0 : Int) (a1 : Int) (a2 : Int) : Bool :=
  (bif (decide ((a0 : Int) ≥ a1)) then
   (decide ((a0 : Int) ≤ a2))
  else
   false)

theorem C36 (a0 : Int) (a1 : Int) (a2 : Int) : Con Tryz.prog 36 [(iv a0), (iv a1), (iv a2)] [] (.v (.bool (F36 a0 a1 a2))) [] := by
  refine con_s Tryz.func36 (by kernel_rfl) fun cx hcx => ?_
  cases h0 : (decide ((a0 : Int) ≥ a1)) with
  | true =>
   have q0 := of_decide_eq_true h0
   have e := Eq.refl (F36 a0 a1 a2); conv at e => rhs; simp only [F36, h0, cond_true, cond_false]
   rw [e]
   exact rt [.d h0] [] [] hcx (by kernel_rfl)
  | false =>
   have q0 := of_decide_eq_false h0
   have e := Eq.refl (F36 a0 a1 a2); conv at e => rhs; simp only [F36, h0, cond_true, cond_false]
   rw [e]
   exact rt [.d h0] [] [] hcx (by kernel_rfl)

theorem wit_1 {n m k : Int} (h : (!(F36 n k m)) = false) : k ≤ n := by
  simp only [F36] at h
  by_cases h1 : n ≥ k
  · exact h1
  · rw [decide_eq_false h1] at h; simp at h

def F31_L (a0 : List (((Int × Int × Int) × (Int × Int × Int) × Int × Int × Int) × Int)) (a1 : Int) : (List (Int) × List (Int × Int × Int × Int × (Int × Int × Int) × Int)) × Int :=
  (bif (((F41_L a0) : Int) != 0) then
   ((([] : List (Int)), ([] : List (Int × Int × Int × Int × (Int × Int × Int) × Int))), (F41_L a0))
  else
   (bif (!(F36 a1 1 16)) then
    ((([] : List (Int)), ([] : List (Int × Int × Int × Int × (Int × Int × Int) × Int))), 1)
   else
    (((F70_L a0 a1).1, (F70_L a0 a1).2), 0)))

theorem C31_L (a0 : List (((Int × Int × Int) × (Int × Int × Int) × Int × Int × Int) × Int)) (a1 : Int) (l0 : a0.length ≤ 9223372036854775807) (hl : a0.length ≤ 12) : Con Tryz.prog 31 [(.s 0 0 a0.length 10), (iv a1)] [(.live false true (flat c85 a0))] (.t [(.a [(.s 1 0 (F31_L a0 a1).1.1.length 1), (.s 2 0 (F31_L a0 a1).1.2.length 8)]), (iv (F31_L a0 a1).2)]) [(.live true true (flat c3 (F31_L a0 a1).1.1)), (.live true true (flat c75 (F31_L a0 a1).1.2))] := by
  refine con_s Tryz.func31 (by kernel_rfl) fun cx hcx => ?_
  let t0 : List (St Tryz.prog) := [.c [0] (C41_L a0 (by (try simp only [List.length_append, List.length_cons, List.length_nil, Int.toNat_zero]); omega))]
  cases h0 : (((F41_L a0) : Int) != 0) with
  | true =>
   have q0 := bne_iff_ne.1 h0
   have e := Eq.refl (F31_L a0 a1); conv at e => rhs; simp only [F31_L, h0, cond_true, cond_false]
   rw [e]
   exact rt (t0 ++ [.d h0]) [.cell 1 0 1, .cell 1 1 8] [2, 3] hcx (by kernel_rfl)
  | false =>
   have q0 := bne_eq_false_iff_eq.1 h0
   let t1 : List (St Tryz.prog) := (t0 ++ [.d h0, .c [] (C36 a1 1 16)])
   cases h1 : (!(F36 a1 1 16)) with
   | true =>
    have e := Eq.refl (F31_L a0 a1); conv at e => rhs; simp only [F31_L, h0, h1, cond_true, cond_false]
    rw [e]
    exact rt (t1 ++ [.d h1]) [.cell 1 0 1, .cell 1 1 8] [2, 3] hcx (by kernel_rfl)
   | false =>
    have e := Eq.refl (F31_L a0 a1); conv at e => rhs; simp only [F31_L, h0, h1, cond_true, cond_false]
    rw [e]
    exact rt (t1 ++ [.d h1, .c [0] (C70_L a0 a1 (by (try simp only [List.length_append, List.length_cons, List.length_nil, Int.toNat_zero]); omega) hl (wit_1 h1))]) [] [2, 3] hcx (by kernel_rfl)

end Go.Proofs.YtnbpiejjeeomkaaGreat

namespace Go.Proofs.YtnbpiejjeeomkaaGreat
open Go.Proofs Go.Aw Go.RowKit
set_option maxRecDepth 100000
set_option linter.unusedVariables false
set_option linter.unusedSimpArgs false

noncomputable def B33_0 : Code := (loopAtD [1, 1, 0, 1] [] (bodyOf Tryz.f33) []).1
noncomputable def K33_0 : List K := (loopAtD [1, 1, 0, 1] [] (bodyOf Tryz.f33) []).2

def st33_0 (a0 : List (Int) × List (Int × Int × Int × Int × (Int × Int × Int) × Int)) (v1c : List SV) (v1n : Nat) (v2 : Int) : LS := ⟨slN 69 [(1, (.p 2 0)), (3, (.s 3 0 v1n 1)), (4, (iv v2))], [(.live false true (flat c3 a0.1)), (.live false true (flat c75 a0.2)), (.live true false [(.s 0 0 a0.1.length 1), (.s 1 0 a0.2.length 8)]), (.live true true v1c)]⟩

def S33_0 (a0 : List (Int) × List (Int × Int × Int × Int × (Int × Int × Int) × Int)) : List (Int) × Int → (List (Int) × Int) ⊕ (Int)
  | (v1, v2) =>
   (bif (decide ((v2 : Int) ≥ 0)) then
    (bif (decide (((a0.2.getD (Int.toNat v2) default).2.2.1 : Int) > v2)) then
     (bif (decide (((a0.2.getD (Int.toNat v2) default).2.2.1 : Int) < ((v1.length : Nat) : Int))) then
      (bif (decide (((a0.2.getD (Int.toNat v2) default).2.2.2.1 : Int) > v2)) then
       (bif (decide (((a0.2.getD (Int.toNat v2) default).2.2.2.1 : Int) < ((v1.length : Nat) : Int))) then
        (.inl ((((v1.set (Int.toNat v2) 1).set (Int.toNat v2) (imx ((v1.set (Int.toNat v2) 1).getD (Int.toNat v2) default) (W (((v1.set (Int.toNat v2) 1).getD (Int.toNat (a0.2.getD (Int.toNat v2) default).2.2.1) default) + 1)))).set (Int.toNat v2) (imx (((v1.set (Int.toNat v2) 1).set (Int.toNat v2) (imx ((v1.set (Int.toNat v2) 1).getD (Int.toNat v2) default) (W (((v1.set (Int.toNat v2) 1).getD (Int.toNat (a0.2.getD (Int.toNat v2) default).2.2.1) default) + 1)))).getD (Int.toNat v2) default) (W ((((v1.set (Int.toNat v2) 1).set (Int.toNat v2) (imx ((v1.set (Int.toNat v2) 1).getD (Int.toNat v2) default) (W (((v1.set (Int.toNat v2) 1).getD (Int.toNat (a0.2.getD (Int.toNat v2) default).2.2.1) default) + 1)))).getD (Int.toNat (a0.2.getD (Int.toNat v2) default).2.2.2.1) default) + 1)))), (W (v2 - 1))))
       else
        (.inl (((v1.set (Int.toNat v2) 1).set (Int.toNat v2) (imx ((v1.set (Int.toNat v2) 1).getD (Int.toNat v2) default) (W (((v1.set (Int.toNat v2) 1).getD (Int.toNat (a0.2.getD (Int.toNat v2) default).2.2.1) default) + 1)))), (W (v2 - 1)))))
      else
       (.inl (((v1.set (Int.toNat v2) 1).set (Int.toNat v2) (imx ((v1.set (Int.toNat v2) 1).getD (Int.toNat v2) default) (W (((v1.set (Int.toNat v2) 1).getD (Int.toNat (a0.2.getD (Int.toNat v2) default).2.2.1) default) + 1)))), (W (v2 - 1)))))
     else
      (bif (decide (((a0.2.getD (Int.toNat v2) default).2.2.2.1 : Int) > v2)) then
       (bif (decide (((a0.2.getD (Int.toNat v2) default).2.2.2.1 : Int) < ((v1.length : Nat) : Int))) then
        (.inl (((v1.set (Int.toNat v2) 1).set (Int.toNat v2) (imx ((v1.set (Int.toNat v2) 1).getD (Int.toNat v2) default) (W (((v1.set (Int.toNat v2) 1).getD (Int.toNat (a0.2.getD (Int.toNat v2) default).2.2.2.1) default) + 1)))), (W (v2 - 1))))
       else
        (.inl ((v1.set (Int.toNat v2) 1), (W (v2 - 1)))))
      else
       (.inl ((v1.set (Int.toNat v2) 1), (W (v2 - 1))))))
    else
     (bif (decide (((a0.2.getD (Int.toNat v2) default).2.2.2.1 : Int) > v2)) then
      (bif (decide (((a0.2.getD (Int.toNat v2) default).2.2.2.1 : Int) < ((v1.length : Nat) : Int))) then
       (.inl (((v1.set (Int.toNat v2) 1).set (Int.toNat v2) (imx ((v1.set (Int.toNat v2) 1).getD (Int.toNat v2) default) (W (((v1.set (Int.toNat v2) 1).getD (Int.toNat (a0.2.getD (Int.toNat v2) default).2.2.2.1) default) + 1)))), (W (v2 - 1))))
      else
       (.inl ((v1.set (Int.toNat v2) 1), (W (v2 - 1)))))
     else
      (.inl ((v1.set (Int.toNat v2) 1), (W (v2 - 1))))))
   else
    (bif ((((v1.length : Nat) : Int) : Int) == 0) then
     (.inr 0)
    else
     (.inr (v1.getD (Int.toNat 0) default))))

set_option maxHeartbeats 4000000 in
theorem L33_0 (a0 : List (Int) × List (Int × Int × Int × Int × (Int × Int × Int) × Int)) (l0_1 : a0.1.length ≤ 9223372036854775807) (l0_2 : a0.2.length ≤ 9223372036854775807) (hl : a0.2.length ≤ 1048576) {cx : Cx} (hcx : cx.base = 2) : ∀ (n : Nat) (v1 : List (Int)) (v2 : Int), (v1.length = a0.2.length) ∧ (-1 ≤ v2) ∧ (v2 < a0.2.length) → Int.toNat (v2 + 1) < n → Aw.Good Tryz.prog none 9 (bodyPost Tryz.prog Tryz.f33 (RR cx (iv (loopF (S33_0 a0) n (v1, v2))) [] [])) cx [] (.l B33_0 n :: K33_0) (st33_0 a0 (flat c3 v1) v1.length v2) := by
  intro n
  induction n with
  | zero => intro v1 v2 hi hn; exact absurd hn (Nat.not_lt_zero _)
  | succ n ih =>
    intro v1 v2 hi hn
    refine good_round ?_
    have hw_i := W_eq (n := v2 - 1) (by omega) (by omega)
    cases h0 : (decide ((v2 : Int) ≥ 0)) with
    | true =>
     have q0 := of_decide_eq_true h0
     let t1 : List (St Tryz.prog) := [.d h0, .i v2 (v1.length), .p (show ((0 + Int.toNat v2 * 1) + 1 ≤ (flat c3 v1).length) from (flat_setl c3_len (by first | omega | (simp only [List.length_set]; omega)) (i := Int.toNat v2) (o := 0) (n := 1) (Nat.le_of_ble_eq_true rfl))), .i v2 (a0.2.length), .L c75_len a0.2 v2 2 1, .i v2 (a0.2.length), .L c75_len a0.2 v2 3 1, .u 200, .T, .i 0 2 (by decide)]
     cases h1 : (decide (((a0.2.getD (Int.toNat v2) default).2.2.1 : Int) > v2)) with
     | true =>
      have q1 := of_decide_eq_true h1
      let t2 : List (St Tryz.prog) := (t1 ++ [.d h1])
      cases h2 : (decide (((a0.2.getD (Int.toNat v2) default).2.2.1 : Int) < ((v1.length : Nat) : Int))) with
      | true =>
       have q2 := of_decide_eq_true h2
       let t3 : List (St Tryz.prog) := (t2 ++ [.d h2, .i v2 (v1.length), .R c3_len (v1.set (Int.toNat v2) 1) v2 0 1 (show (splice (flat c3 v1) (0 + Int.toNat v2 * 1) [(iv 1)]) = flat c3 (v1.set (Int.toNat v2) 1) from (flat_set c3_len (by first | omega | (simp only [List.length_set]; omega)) (i := Int.toNat v2) (o := 0) (d := default) (y := 1) (xs := [(iv 1)]) (Nat.le_of_ble_eq_true rfl) rfl)), .i ((a0.2.getD (Int.toNat v2) default).2.2.1) (v1.length), .R c3_len (v1.set (Int.toNat v2) 1) (a0.2.getD (Int.toNat v2) default).2.2.1 0 1 (show (splice (flat c3 v1) (0 + Int.toNat v2 * 1) [(iv 1)]) = flat c3 (v1.set (Int.toNat v2) 1) from (flat_set c3_len (by first | omega | (simp only [List.length_set]; omega)) (i := Int.toNat v2) (o := 0) (d := default) (y := 1) (xs := [(iv 1)]) (Nat.le_of_ble_eq_true rfl) rfl)), .i v2 (v1.length), .p (show ((0 + Int.toNat v2 * 1) + 1 ≤ (splice (flat c3 v1) (0 + Int.toNat v2 * 1) [(iv 1)]).length) from (by rw [show (splice (flat c3 v1) (0 + Int.toNat v2 * 1) [(iv 1)]) = flat c3 (v1.set (Int.toNat v2) 1) from (flat_set c3_len (by first | omega | (simp only [List.length_set]; omega)) (i := Int.toNat v2) (o := 0) (d := default) (y := 1) (xs := [(iv 1)]) (Nat.le_of_ble_eq_true rfl) rfl)]; exact flat_setl c3_len (by first | omega | (simp only [List.length_set]; omega)) (i := Int.toNat v2) (o := 0) (n := 1) (Nat.le_of_ble_eq_true rfl))), .u 0, .T, .i 1 2 (by decide)])
       cases h3 : (decide (((a0.2.getD (Int.toNat v2) default).2.2.2.1 : Int) > v2)) with
       | true =>
        have q3 := of_decide_eq_true h3
        let t4 : List (St Tryz.prog) := (t3 ++ [.d h3])
        cases h4 : (decide (((a0.2.getD (Int.toNat v2) default).2.2.2.1 : Int) < ((v1.length : Nat) : Int))) with
        | true =>
         have q4 := of_decide_eq_true h4
         have e := Eq.refl (S33_0 a0 (v1, v2)); conv at e => rhs; simp only [S33_0, h0, h1, h2, h3, h4, cond_true, cond_false]
         rw [loopF_inl e]
         refine ba (t4 ++ [.d h4, .i v2 (v1.length), .R c3_len ((v1.set (Int.toNat v2) 1).set (Int.toNat v2) (imx ((v1.set (Int.toNat v2) 1).getD (Int.toNat v2) default) (W (((v1.set (Int.toNat v2) 1).getD (Int.toNat (a0.2.getD (Int.toNat v2) default).2.2.1) default) + 1)))) v2 0 1 (show (splice (splice (flat c3 v1) (0 + Int.toNat v2 * 1) [(iv 1)]) (0 + Int.toNat v2 * 1) [(iv (imx ((v1.set (Int.toNat v2) 1).getD (Int.toNat v2) default) (W (((v1.set (Int.toNat v2) 1).getD (Int.toNat (a0.2.getD (Int.toNat v2) default).2.2.1) default) + 1))))]) = flat c3 ((v1.set (Int.toNat v2) 1).set (Int.toNat v2) (imx ((v1.set (Int.toNat v2) 1).getD (Int.toNat v2) default) (W (((v1.set (Int.toNat v2) 1).getD (Int.toNat (a0.2.getD (Int.toNat v2) default).2.2.1) default) + 1)))) from (by rw [show (splice (flat c3 v1) (0 + Int.toNat v2 * 1) [(iv 1)]) = flat c3 (v1.set (Int.toNat v2) 1) from (flat_set c3_len (by first | omega | (simp only [List.length_set]; omega)) (i := Int.toNat v2) (o := 0) (d := default) (y := 1) (xs := [(iv 1)]) (Nat.le_of_ble_eq_true rfl) rfl)]; exact flat_set c3_len (by first | omega | (simp only [List.length_set]; omega)) (i := Int.toNat v2) (o := 0) (d := default) (y := (imx ((v1.set (Int.toNat v2) 1).getD (Int.toNat v2) default) (W (((v1.set (Int.toNat v2) 1).getD (Int.toNat (a0.2.getD (Int.toNat v2) default).2.2.1) default) + 1)))) (xs := [(iv (imx ((v1.set (Int.toNat v2) 1).getD (Int.toNat v2) default) (W (((v1.set (Int.toNat v2) 1).getD (Int.toNat (a0.2.getD (Int.toNat v2) default).2.2.1) default) + 1))))]) (Nat.le_of_ble_eq_true rfl) rfl)), .i ((a0.2.getD (Int.toNat v2) default).2.2.2.1) (v1.length), .R c3_len ((v1.set (Int.toNat v2) 1).set (Int.toNat v2) (imx ((v1.set (Int.toNat v2) 1).getD (Int.toNat v2) default) (W (((v1.set (Int.toNat v2) 1).getD (Int.toNat (a0.2.getD (Int.toNat v2) default).2.2.1) default) + 1)))) (a0.2.getD (Int.toNat v2) default).2.2.2.1 0 1 (show (splice (splice (flat c3 v1) (0 + Int.toNat v2 * 1) [(iv 1)]) (0 + Int.toNat v2 * 1) [(iv (imx ((v1.set (Int.toNat v2) 1).getD (Int.toNat v2) default) (W (((v1.set (Int.toNat v2) 1).getD (Int.toNat (a0.2.getD (Int.toNat v2) default).2.2.1) default) + 1))))]) = flat c3 ((v1.set (Int.toNat v2) 1).set (Int.toNat v2) (imx ((v1.set (Int.toNat v2) 1).getD (Int.toNat v2) default) (W (((v1.set (Int.toNat v2) 1).getD (Int.toNat (a0.2.getD (Int.toNat v2) default).2.2.1) default) + 1)))) from (by rw [show (splice (flat c3 v1) (0 + Int.toNat v2 * 1) [(iv 1)]) = flat c3 (v1.set (Int.toNat v2) 1) from (flat_set c3_len (by first | omega | (simp only [List.length_set]; omega)) (i := Int.toNat v2) (o := 0) (d := default) (y := 1) (xs := [(iv 1)]) (Nat.le_of_ble_eq_true rfl) rfl)]; exact flat_set c3_len (by first | omega | (simp only [List.length_set]; omega)) (i := Int.toNat v2) (o := 0) (d := default) (y := (imx ((v1.set (Int.toNat v2) 1).getD (Int.toNat v2) default) (W (((v1.set (Int.toNat v2) 1).getD (Int.toNat (a0.2.getD (Int.toNat v2) default).2.2.1) default) + 1)))) (xs := [(iv (imx ((v1.set (Int.toNat v2) 1).getD (Int.toNat v2) default) (W (((v1.set (Int.toNat v2) 1).getD (Int.toNat (a0.2.getD (Int.toNat v2) default).2.2.1) default) + 1))))]) (Nat.le_of_ble_eq_true rfl) rfl)), .i v2 (v1.length), .p (show ((0 + Int.toNat v2 * 1) + 1 ≤ (splice (splice (flat c3 v1) (0 + Int.toNat v2 * 1) [(iv 1)]) (0 + Int.toNat v2 * 1) [(iv (imx ((v1.set (Int.toNat v2) 1).getD (Int.toNat v2) default) (W (((v1.set (Int.toNat v2) 1).getD (Int.toNat (a0.2.getD (Int.toNat v2) default).2.2.1) default) + 1))))]).length) from (by rw [show (splice (splice (flat c3 v1) (0 + Int.toNat v2 * 1) [(iv 1)]) (0 + Int.toNat v2 * 1) [(iv (imx ((v1.set (Int.toNat v2) 1).getD (Int.toNat v2) default) (W (((v1.set (Int.toNat v2) 1).getD (Int.toNat (a0.2.getD (Int.toNat v2) default).2.2.1) default) + 1))))]) = flat c3 ((v1.set (Int.toNat v2) 1).set (Int.toNat v2) (imx ((v1.set (Int.toNat v2) 1).getD (Int.toNat v2) default) (W (((v1.set (Int.toNat v2) 1).getD (Int.toNat (a0.2.getD (Int.toNat v2) default).2.2.1) default) + 1)))) from (by rw [show (splice (flat c3 v1) (0 + Int.toNat v2 * 1) [(iv 1)]) = flat c3 (v1.set (Int.toNat v2) 1) from (flat_set c3_len (by first | omega | (simp only [List.length_set]; omega)) (i := Int.toNat v2) (o := 0) (d := default) (y := 1) (xs := [(iv 1)]) (Nat.le_of_ble_eq_true rfl) rfl)]; exact flat_set c3_len (by first | omega | (simp only [List.length_set]; omega)) (i := Int.toNat v2) (o := 0) (d := default) (y := (imx ((v1.set (Int.toNat v2) 1).getD (Int.toNat v2) default) (W (((v1.set (Int.toNat v2) 1).getD (Int.toNat (a0.2.getD (Int.toNat v2) default).2.2.1) default) + 1)))) (xs := [(iv (imx ((v1.set (Int.toNat v2) 1).getD (Int.toNat v2) default) (W (((v1.set (Int.toNat v2) 1).getD (Int.toNat (a0.2.getD (Int.toNat v2) default).2.2.1) default) + 1))))]) (Nat.le_of_ble_eq_true rfl) rfl)]; exact flat_setl c3_len (by first | omega | (simp only [List.length_set]; omega)) (i := Int.toNat v2) (o := 0) (n := 1) (Nat.le_of_ble_eq_true rfl))), .u 0, .F]) [] [1, 3, 4] [2, 3] hcx (m := n) B33_0 (K33_0) (st33_0 a0 (splice (splice (splice (flat c3 v1) (0 + Int.toNat v2 * 1) [(iv 1)]) (0 + Int.toNat v2 * 1) [(iv (imx ((v1.set (Int.toNat v2) 1).getD (Int.toNat v2) default) (W (((v1.set (Int.toNat v2) 1).getD (Int.toNat (a0.2.getD (Int.toNat v2) default).2.2.1) default) + 1))))]) (0 + Int.toNat v2 * 1) [(iv (imx (((v1.set (Int.toNat v2) 1).set (Int.toNat v2) (imx ((v1.set (Int.toNat v2) 1).getD (Int.toNat v2) default) (W (((v1.set (Int.toNat v2) 1).getD (Int.toNat (a0.2.getD (Int.toNat v2) default).2.2.1) default) + 1)))).getD (Int.toNat v2) default) (W ((((v1.set (Int.toNat v2) 1).set (Int.toNat v2) (imx ((v1.set (Int.toNat v2) 1).getD (Int.toNat v2) default) (W (((v1.set (Int.toNat v2) 1).getD (Int.toNat (a0.2.getD (Int.toNat v2) default).2.2.1) default) + 1)))).getD (Int.toNat (a0.2.getD (Int.toNat v2) default).2.2.2.1) default) + 1))))]) (v1.length) (W (v2 - 1))) (by kernel_rfl) ?_
         have z0 : (splice (splice (splice (flat c3 v1) (0 + Int.toNat v2 * 1) [(iv 1)]) (0 + Int.toNat v2 * 1) [(iv (imx ((v1.set (Int.toNat v2) 1).getD (Int.toNat v2) default) (W (((v1.set (Int.toNat v2) 1).getD (Int.toNat (a0.2.getD (Int.toNat v2) default).2.2.1) default) + 1))))]) (0 + Int.toNat v2 * 1) [(iv (imx (((v1.set (Int.toNat v2) 1).set (Int.toNat v2) (imx ((v1.set (Int.toNat v2) 1).getD (Int.toNat v2) default) (W (((v1.set (Int.toNat v2) 1).getD (Int.toNat (a0.2.getD (Int.toNat v2) default).2.2.1) default) + 1)))).getD (Int.toNat v2) default) (W ((((v1.set (Int.toNat v2) 1).set (Int.toNat v2) (imx ((v1.set (Int.toNat v2) 1).getD (Int.toNat v2) default) (W (((v1.set (Int.toNat v2) 1).getD (Int.toNat (a0.2.getD (Int.toNat v2) default).2.2.1) default) + 1)))).getD (Int.toNat (a0.2.getD (Int.toNat v2) default).2.2.2.1) default) + 1))))]) = flat c3 (((v1.set (Int.toNat v2) 1).set (Int.toNat v2) (imx ((v1.set (Int.toNat v2) 1).getD (Int.toNat v2) default) (W (((v1.set (Int.toNat v2) 1).getD (Int.toNat (a0.2.getD (Int.toNat v2) default).2.2.1) default) + 1)))).set (Int.toNat v2) (imx (((v1.set (Int.toNat v2) 1).set (Int.toNat v2) (imx ((v1.set (Int.toNat v2) 1).getD (Int.toNat v2) default) (W (((v1.set (Int.toNat v2) 1).getD (Int.toNat (a0.2.getD (Int.toNat v2) default).2.2.1) default) + 1)))).getD (Int.toNat v2) default) (W ((((v1.set (Int.toNat v2) 1).set (Int.toNat v2) (imx ((v1.set (Int.toNat v2) 1).getD (Int.toNat v2) default) (W (((v1.set (Int.toNat v2) 1).getD (Int.toNat (a0.2.getD (Int.toNat v2) default).2.2.1) default) + 1)))).getD (Int.toNat (a0.2.getD (Int.toNat v2) default).2.2.2.1) default) + 1)))) := (by rw [show (splice (splice (flat c3 v1) (0 + Int.toNat v2 * 1) [(iv 1)]) (0 + Int.toNat v2 * 1) [(iv (imx ((v1.set (Int.toNat v2) 1).getD (Int.toNat v2) default) (W (((v1.set (Int.toNat v2) 1).getD (Int.toNat (a0.2.getD (Int.toNat v2) default).2.2.1) default) + 1))))]) = flat c3 ((v1.set (Int.toNat v2) 1).set (Int.toNat v2) (imx ((v1.set (Int.toNat v2) 1).getD (Int.toNat v2) default) (W (((v1.set (Int.toNat v2) 1).getD (Int.toNat (a0.2.getD (Int.toNat v2) default).2.2.1) default) + 1)))) from (by rw [show (splice (flat c3 v1) (0 + Int.toNat v2 * 1) [(iv 1)]) = flat c3 (v1.set (Int.toNat v2) 1) from (flat_set c3_len (by first | omega | (simp only [List.length_set]; omega)) (i := Int.toNat v2) (o := 0) (d := default) (y := 1) (xs := [(iv 1)]) (Nat.le_of_ble_eq_true rfl) rfl)]; exact flat_set c3_len (by first | omega | (simp only [List.length_set]; omega)) (i := Int.toNat v2) (o := 0) (d := default) (y := (imx ((v1.set (Int.toNat v2) 1).getD (Int.toNat v2) default) (W (((v1.set (Int.toNat v2) 1).getD (Int.toNat (a0.2.getD (Int.toNat v2) default).2.2.1) default) + 1)))) (xs := [(iv (imx ((v1.set (Int.toNat v2) 1).getD (Int.toNat v2) default) (W (((v1.set (Int.toNat v2) 1).getD (Int.toNat (a0.2.getD (Int.toNat v2) default).2.2.1) default) + 1))))]) (Nat.le_of_ble_eq_true rfl) rfl)]; exact flat_set c3_len (by first | omega | (simp only [List.length_set]; omega)) (i := Int.toNat v2) (o := 0) (d := default) (y := (imx (((v1.set (Int.toNat v2) 1).set (Int.toNat v2) (imx ((v1.set (Int.toNat v2) 1).getD (Int.toNat v2) default) (W (((v1.set (Int.toNat v2) 1).getD (Int.toNat (a0.2.getD (Int.toNat v2) default).2.2.1) default) + 1)))).getD (Int.toNat v2) default) (W ((((v1.set (Int.toNat v2) 1).set (Int.toNat v2) (imx ((v1.set (Int.toNat v2) 1).getD (Int.toNat v2) default) (W (((v1.set (Int.toNat v2) 1).getD (Int.toNat (a0.2.getD (Int.toNat v2) default).2.2.1) default) + 1)))).getD (Int.toNat (a0.2.getD (Int.toNat v2) default).2.2.2.1) default) + 1)))) (xs := [(iv (imx (((v1.set (Int.toNat v2) 1).set (Int.toNat v2) (imx ((v1.set (Int.toNat v2) 1).getD (Int.toNat v2) default) (W (((v1.set (Int.toNat v2) 1).getD (Int.toNat (a0.2.getD (Int.toNat v2) default).2.2.1) default) + 1)))).getD (Int.toNat v2) default) (W ((((v1.set (Int.toNat v2) 1).set (Int.toNat v2) (imx ((v1.set (Int.toNat v2) 1).getD (Int.toNat v2) default) (W (((v1.set (Int.toNat v2) 1).getD (Int.toNat (a0.2.getD (Int.toNat v2) default).2.2.1) default) + 1)))).getD (Int.toNat (a0.2.getD (Int.toNat v2) default).2.2.2.1) default) + 1))))]) (Nat.le_of_ble_eq_true rfl) rfl)
         have z1 : v1.length = (((v1.set (Int.toNat v2) 1).set (Int.toNat v2) (imx ((v1.set (Int.toNat v2) 1).getD (Int.toNat v2) default) (W (((v1.set (Int.toNat v2) 1).getD (Int.toNat (a0.2.getD (Int.toNat v2) default).2.2.1) default) + 1)))).set (Int.toNat v2) (imx (((v1.set (Int.toNat v2) 1).set (Int.toNat v2) (imx ((v1.set (Int.toNat v2) 1).getD (Int.toNat v2) default) (W (((v1.set (Int.toNat v2) 1).getD (Int.toNat (a0.2.getD (Int.toNat v2) default).2.2.1) default) + 1)))).getD (Int.toNat v2) default) (W ((((v1.set (Int.toNat v2) 1).set (Int.toNat v2) (imx ((v1.set (Int.toNat v2) 1).getD (Int.toNat v2) default) (W (((v1.set (Int.toNat v2) 1).getD (Int.toNat (a0.2.getD (Int.toNat v2) default).2.2.1) default) + 1)))).getD (Int.toNat (a0.2.getD (Int.toNat v2) default).2.2.2.1) default) + 1)))).length := by simp
         rw [z0, z1]
         exact ih (((v1.set (Int.toNat v2) 1).set (Int.toNat v2) (imx ((v1.set (Int.toNat v2) 1).getD (Int.toNat v2) default) (W (((v1.set (Int.toNat v2) 1).getD (Int.toNat (a0.2.getD (Int.toNat v2) default).2.2.1) default) + 1)))).set (Int.toNat v2) (imx (((v1.set (Int.toNat v2) 1).set (Int.toNat v2) (imx ((v1.set (Int.toNat v2) 1).getD (Int.toNat v2) default) (W (((v1.set (Int.toNat v2) 1).getD (Int.toNat (a0.2.getD (Int.toNat v2) default).2.2.1) default) + 1)))).getD (Int.toNat v2) default) (W ((((v1.set (Int.toNat v2) 1).set (Int.toNat v2) (imx ((v1.set (Int.toNat v2) 1).getD (Int.toNat v2) default) (W (((v1.set (Int.toNat v2) 1).getD (Int.toNat (a0.2.getD (Int.toNat v2) default).2.2.1) default) + 1)))).getD (Int.toNat (a0.2.getD (Int.toNat v2) default).2.2.2.1) default) + 1)))) (W (v2 - 1)) (by refine ⟨?_, ?_, ?_⟩ <;> (try simp only [List.length_append, List.length_cons, List.length_nil, Int.toNat_zero]) <;> first | omega | assumption | simp) (by (try simp only [List.length_append, List.length_cons, List.length_nil, Int.toNat_zero]); omega)
        | false =>
         have q4 := of_decide_eq_false h4
         have e := Eq.refl (S33_0 a0 (v1, v2)); conv at e => rhs; simp only [S33_0, h0, h1, h2, h3, h4, cond_true, cond_false]
         rw [loopF_inl e]
         refine ba (t4 ++ [.d h4, .u 0, .F]) [] [1, 3, 4] [2, 3] hcx (m := n) B33_0 (K33_0) (st33_0 a0 (splice (splice (flat c3 v1) (0 + Int.toNat v2 * 1) [(iv 1)]) (0 + Int.toNat v2 * 1) [(iv (imx ((v1.set (Int.toNat v2) 1).getD (Int.toNat v2) default) (W (((v1.set (Int.toNat v2) 1).getD (Int.toNat (a0.2.getD (Int.toNat v2) default).2.2.1) default) + 1))))]) (v1.length) (W (v2 - 1))) (by kernel_rfl) ?_
         have z0 : (splice (splice (flat c3 v1) (0 + Int.toNat v2 * 1) [(iv 1)]) (0 + Int.toNat v2 * 1) [(iv (imx ((v1.set (Int.toNat v2) 1).getD (Int.toNat v2) default) (W (((v1.set (Int.toNat v2) 1).getD (Int.toNat (a0.2.getD (Int.toNat v2) default).2.2.1) default) + 1))))]) = flat c3 ((v1.set (Int.toNat v2) 1).set (Int.toNat v2) (imx ((v1.set (Int.toNat v2) 1).getD (Int.toNat v2) default) (W (((v1.set (Int.toNat v2) 1).getD (Int.toNat (a0.2.getD (Int.toNat v2) default).2.2.1) default) + 1)))) := (by rw [show (splice (flat c3 v1) (0 + Int.toNat v2 * 1) [(iv 1)]) = flat c3 (v1.set (Int.toNat v2) 1) from (flat_set c3_len (by first | omega | (simp only [List.length_set]; omega)) (i := Int.toNat v2) (o := 0) (d := default) (y := 1) (xs := [(iv 1)]) (Nat.le_of_ble_eq_true rfl) rfl)]; exact flat_set c3_len (by first | omega | (simp only [List.length_set]; omega)) (i := Int.toNat v2) (o := 0) (d := default) (y := (imx ((v1.set (Int.toNat v2) 1).getD (Int.toNat v2) default) (W (((v1.set (Int.toNat v2) 1).getD (Int.toNat (a0.2.getD (Int.toNat v2) default).2.2.1) default) + 1)))) (xs := [(iv (imx ((v1.set (Int.toNat v2) 1).getD (Int.toNat v2) default) (W (((v1.set (Int.toNat v2) 1).getD (Int.toNat (a0.2.getD (Int.toNat v2) default).2.2.1) default) + 1))))]) (Nat.le_of_ble_eq_true rfl) rfl)
         have z1 : v1.length = ((v1.set (Int.toNat v2) 1).set (Int.toNat v2) (imx ((v1.set (Int.toNat v2) 1).getD (Int.toNat v2) default) (W (((v1.set (Int.toNat v2) 1).getD (Int.toNat (a0.2.getD (Int.toNat v2) default).2.2.1) default) + 1)))).length := by simp
         rw [z0, z1]
         exact ih ((v1.set (Int.toNat v2) 1).set (Int.toNat v2) (imx ((v1.set (Int.toNat v2) 1).getD (Int.toNat v2) default) (W (((v1.set (Int.toNat v2) 1).getD (Int.toNat (a0.2.getD (Int.toNat v2) default).2.2.1) default) + 1)))) (W (v2 - 1)) (by refine ⟨?_, ?_, ?_⟩ <;> (try simp only [List.length_append, List.length_cons, List.length_nil, Int.toNat_zero]) <;> first | omega | assumption | simp) (by (try simp only [List.length_append, List.length_cons, List.length_nil, Int.toNat_zero]); omega)
       | false =>
        have q3 := of_decide_eq_false h3
        have e := Eq.refl (S33_0 a0 (v1, v2)); conv at e => rhs; simp only [S33_0, h0, h1, h2, h3, cond_true, cond_false]
        rw [loopF_inl e]
        refine ba (t3 ++ [.d h3, .u 0, .F]) [] [1, 3, 4] [2, 3] hcx (m := n) B33_0 (K33_0) (st33_0 a0 (splice (splice (flat c3 v1) (0 + Int.toNat v2 * 1) [(iv 1)]) (0 + Int.toNat v2 * 1) [(iv (imx ((v1.set (Int.toNat v2) 1).getD (Int.toNat v2) default) (W (((v1.set (Int.toNat v2) 1).getD (Int.toNat (a0.2.getD (Int.toNat v2) default).2.2.1) default) + 1))))]) (v1.length) (W (v2 - 1))) (by kernel_rfl) ?_
        have z0 : (splice (splice (flat c3 v1) (0 + Int.toNat v2 * 1) [(iv 1)]) (0 + Int.toNat v2 * 1) [(iv (imx ((v1.set (Int.toNat v2) 1).getD (Int.toNat v2) default) (W (((v1.set (Int.toNat v2) 1).getD (Int.toNat (a0.2.getD (Int.toNat v2) default).2.2.1) default) + 1))))]) = flat c3 ((v1.set (Int.toNat v2) 1).set (Int.toNat v2) (imx ((v1.set (Int.toNat v2) 1).getD (Int.toNat v2) default) (W (((v1.set (Int.toNat v2) 1).getD (Int.toNat (a0.2.getD (Int.toNat v2) default).2.2.1) default) + 1)))) := (by rw [show (splice (flat c3 v1) (0 + Int.toNat v2 * 1) [(iv 1)]) = flat c3 (v1.set (Int.toNat v2) 1) from (flat_set c3_len (by first | omega | (simp only [List.length_set]; omega)) (i := Int.toNat v2) (o := 0) (d := default) (y := 1) (xs := [(iv 1)]) (Nat.le_of_ble_eq_true rfl) rfl)]; exact flat_set c3_len (by first | omega | (simp only [List.length_set]; omega)) (i := Int.toNat v2) (o := 0) (d := default) (y := (imx ((v1.set (Int.toNat v2) 1).getD (Int.toNat v2) default) (W (((v1.set (Int.toNat v2) 1).getD (Int.toNat (a0.2.getD (Int.toNat v2) default).2.2.1) default) + 1)))) (xs := [(iv (imx ((v1.set (Int.toNat v2) 1).getD (Int.toNat v2) default) (W (((v1.set (Int.toNat v2) 1).getD (Int.toNat (a0.2.getD (Int.toNat v2) default).2.2.1) default) + 1))))]) (Nat.le_of_ble_eq_true rfl) rfl)
        have z1 : v1.length = ((v1.set (Int.toNat v2) 1).set (Int.toNat v2) (imx ((v1.set (Int.toNat v2) 1).getD (Int.toNat v2) default) (W (((v1.set (Int.toNat v2) 1).getD (Int.toNat (a0.2.getD (Int.toNat v2) default).2.2.1) default) + 1)))).length := by simp
        rw [z0, z1]
        exact ih ((v1.set (Int.toNat v2) 1).set (Int.toNat v2) (imx ((v1.set (Int.toNat v2) 1).getD (Int.toNat v2) default) (W (((v1.set (Int.toNat v2) 1).getD (Int.toNat (a0.2.getD (Int.toNat v2) default).2.2.1) default) + 1)))) (W (v2 - 1)) (by refine ⟨?_, ?_, ?_⟩ <;> (try simp only [List.length_append, List.length_cons, List.length_nil, Int.toNat_zero]) <;> first | omega | assumption | simp) (by (try simp only [List.length_append, List.length_cons, List.length_nil, Int.toNat_zero]); omega)
      | false =>
       have q2 := of_decide_eq_false h2
       let t3 : List (St Tryz.prog) := (t2 ++ [.d h2, .u 0, .T, .i 1 2 (by decide)])
       cases h3 : (decide (((a0.2.getD (Int.toNat v2) default).2.2.2.1 : Int) > v2)) with
       | true =>
        have q3 := of_decide_eq_true h3
        let t4 : List (St Tryz.prog) := (t3 ++ [.d h3])
        cases h4 : (decide (((a0.2.getD (Int.toNat v2) default).2.2.2.1 : Int) < ((v1.length : Nat) : Int))) with
        | true =>
         have q4 := of_decide_eq_true h4
         have e := Eq.refl (S33_0 a0 (v1, v2)); conv at e => rhs; simp only [S33_0, h0, h1, h2, h3, h4, cond_true, cond_false]
         rw [loopF_inl e]
         refine ba (t4 ++ [.d h4, .i v2 (v1.length), .R c3_len (v1.set (Int.toNat v2) 1) v2 0 1 (show (splice (flat c3 v1) (0 + Int.toNat v2 * 1) [(iv 1)]) = flat c3 (v1.set (Int.toNat v2) 1) from (flat_set c3_len (by first | omega | (simp only [List.length_set]; omega)) (i := Int.toNat v2) (o := 0) (d := default) (y := 1) (xs := [(iv 1)]) (Nat.le_of_ble_eq_true rfl) rfl)), .i ((a0.2.getD (Int.toNat v2) default).2.2.2.1) (v1.length), .R c3_len (v1.set (Int.toNat v2) 1) (a0.2.getD (Int.toNat v2) default).2.2.2.1 0 1 (show (splice (flat c3 v1) (0 + Int.toNat v2 * 1) [(iv 1)]) = flat c3 (v1.set (Int.toNat v2) 1) from (flat_set c3_len (by first | omega | (simp only [List.length_set]; omega)) (i := Int.toNat v2) (o := 0) (d := default) (y := 1) (xs := [(iv 1)]) (Nat.le_of_ble_eq_true rfl) rfl)), .i v2 (v1.length), .p (show ((0 + Int.toNat v2 * 1) + 1 ≤ (splice (flat c3 v1) (0 + Int.toNat v2 * 1) [(iv 1)]).length) from (by rw [show (splice (flat c3 v1) (0 + Int.toNat v2 * 1) [(iv 1)]) = flat c3 (v1.set (Int.toNat v2) 1) from (flat_set c3_len (by first | omega | (simp only [List.length_set]; omega)) (i := Int.toNat v2) (o := 0) (d := default) (y := 1) (xs := [(iv 1)]) (Nat.le_of_ble_eq_true rfl) rfl)]; exact flat_setl c3_len (by first | omega | (simp only [List.length_set]; omega)) (i := Int.toNat v2) (o := 0) (n := 1) (Nat.le_of_ble_eq_true rfl))), .u 0, .F]) [] [1, 3, 4] [2, 3] hcx (m := n) B33_0 (K33_0) (st33_0 a0 (splice (splice (flat c3 v1) (0 + Int.toNat v2 * 1) [(iv 1)]) (0 + Int.toNat v2 * 1) [(iv (imx ((v1.set (Int.toNat v2) 1).getD (Int.toNat v2) default) (W (((v1.set (Int.toNat v2) 1).getD (Int.toNat (a0.2.getD (Int.toNat v2) default).2.2.2.1) default) + 1))))]) (v1.length) (W (v2 - 1))) (by kernel_rfl) ?_
         have z0 : (splice (splice (flat c3 v1) (0 + Int.toNat v2 * 1) [(iv 1)]) (0 + Int.toNat v2 * 1) [(iv (imx ((v1.set (Int.toNat v2) 1).getD (Int.toNat v2) default) (W (((v1.set (Int.toNat v2) 1).getD (Int.toNat (a0.2.getD (Int.toNat v2) default).2.2.2.1) default) + 1))))]) = flat c3 ((v1.set (Int.toNat v2) 1).set (Int.toNat v2) (imx ((v1.set (Int.toNat v2) 1).getD (Int.toNat v2) default) (W (((v1.set (Int.toNat v2) 1).getD (Int.toNat (a0.2.getD (Int.toNat v2) default).2.2.2.1) default) + 1)))) := (by rw [show (splice (flat c3 v1) (0 + Int.toNat v2 * 1) [(iv 1)]) = flat c3 (v1.set (Int.toNat v2) 1) from (flat_set c3_len (by first | omega | (simp only [List.length_set]; omega)) (i := Int.toNat v2) (o := 0) (d := default) (y := 1) (xs := [(iv 1)]) (Nat.le_of_ble_eq_true rfl) rfl)]; exact flat_set c3_len (by first | omega | (simp only [List.length_set]; omega)) (i := Int.toNat v2) (o := 0) (d := default) (y := (imx ((v1.set (Int.toNat v2) 1).getD (Int.toNat v2) default) (W (((v1.set (Int.toNat v2) 1).getD (Int.toNat (a0.2.getD (Int.toNat v2) default).2.2.2.1) default) + 1)))) (xs := [(iv (imx ((v1.set (Int.toNat v2) 1).getD (Int.toNat v2) default) (W (((v1.set (Int.toNat v2) 1).getD (Int.toNat (a0.2.getD (Int.toNat v2) default).2.2.2.1) default) + 1))))]) (Nat.le_of_ble_eq_true rfl) rfl)
         have z1 : v1.length = ((v1.set (Int.toNat v2) 1).set (Int.toNat v2) (imx ((v1.set (Int.toNat v2) 1).getD (Int.toNat v2) default) (W (((v1.set (Int.toNat v2) 1).getD (Int.toNat (a0.2.getD (Int.toNat v2) default).2.2.2.1) default) + 1)))).length := by simp
         rw [z0, z1]
         exact ih ((v1.set (Int.toNat v2) 1).set (Int.toNat v2) (imx ((v1.set (Int.toNat v2) 1).getD (Int.toNat v2) default) (W (((v1.set (Int.toNat v2) 1).getD (Int.toNat (a0.2.getD (Int.toNat v2) default).2.2.2.1) default) + 1)))) (W (v2 - 1)) (by refine ⟨?_, ?_, ?_⟩ <;> (try simp only [List.length_append, List.length_cons, List.length_nil, Int.toNat_zero]) <;> first | omega | assumption | simp) (by (try simp only [List.length_append, List.length_cons, List.length_nil, Int.toNat_zero]); omega)
        | false =>
         have q4 := of_decide_eq_false h4
         have e := Eq.refl (S33_0 a0 (v1, v2)); conv at e => rhs; simp only [S33_0, h0, h1, h2, h3, h4, cond_true, cond_false]
         rw [loopF_inl e]
         refine ba (t4 ++ [.d h4, .u 0, .F]) [] [1, 3, 4] [2, 3] hcx (m := n) B33_0 (K33_0) (st33_0 a0 (splice (flat c3 v1) (0 + Int.toNat v2 * 1) [(iv 1)]) (v1.length) (W (v2 - 1))) (by kernel_rfl) ?_
         have z0 : (splice (flat c3 v1) (0 + Int.toNat v2 * 1) [(iv 1)]) = flat c3 (v1.set (Int.toNat v2) 1) := (flat_set c3_len (by first | omega | (simp only [List.length_set]; omega)) (i := Int.toNat v2) (o := 0) (d := default) (y := 1) (xs := [(iv 1)]) (Nat.le_of_ble_eq_true rfl) rfl)
         have z1 : v1.length = (v1.set (Int.toNat v2) 1).length := by simp
         rw [z0, z1]
         exact ih (v1.set (Int.toNat v2) 1) (W (v2 - 1)) (by refine ⟨?_, ?_, ?_⟩ <;> (try simp only [List.length_append, List.length_cons, List.length_nil, Int.toNat_zero]) <;> first | omega | assumption | simp) (by (try simp only [List.length_append, List.length_cons, List.length_nil, Int.toNat_zero]); omega)
       | false =>
        have q3 := of_decide_eq_false h3
        have e := Eq.refl (S33_0 a0 (v1, v2)); conv at e => rhs; simp only [S33_0, h0, h1, h2, h3, cond_true, cond_false]
        rw [loopF_inl e]
        refine ba (t3 ++ [.d h3, .u 0, .F]) [] [1, 3, 4] [2, 3] hcx (m := n) B33_0 (K33_0) (st33_0 a0 (splice (flat c3 v1) (0 + Int.toNat v2 * 1) [(iv 1)]) (v1.length) (W (v2 - 1))) (by kernel_rfl) ?_
        have z0 : (splice (flat c3 v1) (0 + Int.toNat v2 * 1) [(iv 1)]) = flat c3 (v1.set (Int.toNat v2) 1) := (flat_set c3_len (by first | omega | (simp only [List.length_set]; omega)) (i := Int.toNat v2) (o := 0) (d := default) (y := 1) (xs := [(iv 1)]) (Nat.le_of_ble_eq_true rfl) rfl)
        have z1 : v1.length = (v1.set (Int.toNat v2) 1).length := by simp
        rw [z0, z1]
        exact ih (v1.set (Int.toNat v2) 1) (W (v2 - 1)) (by refine ⟨?_, ?_, ?_⟩ <;> (try simp only [List.length_append, List.length_cons, List.length_nil, Int.toNat_zero]) <;> first | omega | assumption | simp) (by (try simp only [List.length_append, List.length_cons, List.length_nil, Int.toNat_zero]); omega)
     | false =>
      have q1 := of_decide_eq_false h1
      let t2 : List (St Tryz.prog) := (t1 ++ [.d h1, .u 0, .T, .i 1 2 (by decide)])
      cases h2 : (decide (((a0.2.getD (Int.toNat v2) default).2.2.2.1 : Int) > v2)) with
      | true =>
       have q2 := of_decide_eq_true h2
       let t3 : List (St Tryz.prog) := (t2 ++ [.d h2])
       cases h3 : (decide (((a0.2.getD (Int.toNat v2) default).2.2.2.1 : Int) < ((v1.length : Nat) : Int))) with
       | true =>
        have q3 := of_decide_eq_true h3
        have e := Eq.refl (S33_0 a0 (v1, v2)); conv at e => rhs; simp only [S33_0, h0, h1, h2, h3, cond_true, cond_false]
        rw [loopF_inl e]
        refine ba (t3 ++ [.d h3, .i v2 (v1.length), .R c3_len (v1.set (Int.toNat v2) 1) v2 0 1 (show (splice (flat c3 v1) (0 + Int.toNat v2 * 1) [(iv 1)]) = flat c3 (v1.set (Int.toNat v2) 1) from (flat_set c3_len (by first | omega | (simp only [List.length_set]; omega)) (i := Int.toNat v2) (o := 0) (d := default) (y := 1) (xs := [(iv 1)]) (Nat.le_of_ble_eq_true rfl) rfl)), .i ((a0.2.getD (Int.toNat v2) default).2.2.2.1) (v1.length), .R c3_len (v1.set (Int.toNat v2) 1) (a0.2.getD (Int.toNat v2) default).2.2.2.1 0 1 (show (splice (flat c3 v1) (0 + Int.toNat v2 * 1) [(iv 1)]) = flat c3 (v1.set (Int.toNat v2) 1) from (flat_set c3_len (by first | omega | (simp only [List.length_set]; omega)) (i := Int.toNat v2) (o := 0) (d := default) (y := 1) (xs := [(iv 1)]) (Nat.le_of_ble_eq_true rfl) rfl)), .i v2 (v1.length), .p (show ((0 + Int.toNat v2 * 1) + 1 ≤ (splice (flat c3 v1) (0 + Int.toNat v2 * 1) [(iv 1)]).length) from (by rw [show (splice (flat c3 v1) (0 + Int.toNat v2 * 1) [(iv 1)]) = flat c3 (v1.set (Int.toNat v2) 1) from (flat_set c3_len (by first | omega | (simp only [List.length_set]; omega)) (i := Int.toNat v2) (o := 0) (d := default) (y := 1) (xs := [(iv 1)]) (Nat.le_of_ble_eq_true rfl) rfl)]; exact flat_setl c3_len (by first | omega | (simp only [List.length_set]; omega)) (i := Int.toNat v2) (o := 0) (n := 1) (Nat.le_of_ble_eq_true rfl))), .u 0, .F]) [] [1, 3, 4] [2, 3] hcx (m := n) B33_0 (K33_0) (st33_0 a0 (splice (splice (flat c3 v1) (0 + Int.toNat v2 * 1) [(iv 1)]) (0 + Int.toNat v2 * 1) [(iv (imx ((v1.set (Int.toNat v2) 1).getD (Int.toNat v2) default) (W (((v1.set (Int.toNat v2) 1).getD (Int.toNat (a0.2.getD (Int.toNat v2) default).2.2.2.1) default) + 1))))]) (v1.length) (W (v2 - 1))) (by kernel_rfl) ?_
        have z0 : (splice (splice (flat c3 v1) (0 + Int.toNat v2 * 1) [(iv 1)]) (0 + Int.toNat v2 * 1) [(iv (imx ((v1.set (Int.toNat v2) 1).getD (Int.toNat v2) default) (W (((v1.set (Int.toNat v2) 1).getD (Int.toNat (a0.2.getD (Int.toNat v2) default).2.2.2.1) default) + 1))))]) = flat c3 ((v1.set (Int.toNat v2) 1).set (Int.toNat v2) (imx ((v1.set (Int.toNat v2) 1).getD (Int.toNat v2) default) (W (((v1.set (Int.toNat v2) 1).getD (Int.toNat (a0.2.getD (Int.toNat v2) default).2.2.2.1) default) + 1)))) := (by rw [show (splice (flat c3 v1) (0 + Int.toNat v2 * 1) [(iv 1)]) = flat c3 (v1.set (Int.toNat v2) 1) from (flat_set c3_len (by first | omega | (simp only [List.length_set]; omega)) (i := Int.toNat v2) (o := 0) (d := default) (y := 1) (xs := [(iv 1)]) (Nat.le_of_ble_eq_true rfl) rfl)]; exact flat_set c3_len (by first | omega | (simp only [List.length_set]; omega)) (i := Int.toNat v2) (o := 0) (d := default) (y := (imx ((v1.set (Int.toNat v2) 1).getD (Int.toNat v2) default) (W (((v1.set (Int.toNat v2) 1).getD (Int.toNat (a0.2.getD (Int.toNat v2) default).2.2.2.1) default) + 1)))) (xs := [(iv (imx ((v1.set (Int.toNat v2) 1).getD (Int.toNat v2) default) (W (((v1.set (Int.toNat v2) 1).getD (Int.toNat (a0.2.getD (Int.toNat v2) default).2.2.2.1) default) + 1))))]) (Nat.le_of_ble_eq_true rfl) rfl)
        have z1 : v1.length = ((v1.set (Int.toNat v2) 1).set (Int.toNat v2) (imx ((v1.set (Int.toNat v2) 1).getD (Int.toNat v2) default) (W (((v1.set (Int.toNat v2) 1).getD (Int.toNat (a0.2.getD (Int.toNat v2) default).2.2.2.1) default) + 1)))).length := by simp
        rw [z0, z1]
        exact ih ((v1.set (Int.toNat v2) 1).set (Int.toNat v2) (imx ((v1.set (Int.toNat v2) 1).getD (Int.toNat v2) default) (W (((v1.set (Int.toNat v2) 1).getD (Int.toNat (a0.2.getD (Int.toNat v2) default).2.2.2.1) default) + 1)))) (W (v2 - 1)) (by refine ⟨?_, ?_, ?_⟩ <;> (try simp only [List.length_append, List.length_cons, List.length_nil, Int.toNat_zero]) <;> first | omega | assumption | simp) (by (try simp only [List.length_append, List.length_cons, List.length_nil, Int.toNat_zero]); omega)
       | false =>
        have q3 := of_decide_eq_false h3
        have e := Eq.refl (S33_0 a0 (v1, v2)); conv at e => rhs; simp only [S33_0, h0, h1, h2, h3, cond_true, cond_false]
        rw [loopF_inl e]
        refine ba (t3 ++ [.d h3, .u 0, .F]) [] [1, 3, 4] [2, 3] hcx (m := n) B33_0 (K33_0) (st33_0 a0 (splice (flat c3 v1) (0 + Int.toNat v2 * 1) [(iv 1)]) (v1.length) (W (v2 - 1))) (by kernel_rfl) ?_
        have z0 : (splice (flat c3 v1) (0 + Int.toNat v2 * 1) [(iv 1)]) = flat c3 (v1.set (Int.toNat v2) 1) := (flat_set c3_len (by first | omega | (simp only [List.length_set]; omega)) (i := Int.toNat v2) (o := 0) (d := default) (y := 1) (xs := [(iv 1)]) (Nat.le_of_ble_eq_true rfl) rfl)
        have z1 : v1.length = (v1.set (Int.toNat v2) 1).length := by simp
        rw [z0, z1]
        exact ih (v1.set (Int.toNat v2) 1) (W (v2 - 1)) (by refine ⟨?_, ?_, ?_⟩ <;> (try simp only [List.length_append, List.length_cons, List.length_nil, Int.toNat_zero]) <;> first | omega | assumption | simp) (by (try simp only [List.length_append, List.length_cons, List.length_nil, Int.toNat_zero]); omega)
      | false =>
       have q2 := of_decide_eq_false h2
       have e := Eq.refl (S33_0 a0 (v1, v2)); conv at e => rhs; simp only [S33_0, h0, h1, h2, cond_true, cond_false]
       rw [loopF_inl e]
       refine ba (t2 ++ [.d h2, .u 0, .F]) [] [1, 3, 4] [2, 3] hcx (m := n) B33_0 (K33_0) (st33_0 a0 (splice (flat c3 v1) (0 + Int.toNat v2 * 1) [(iv 1)]) (v1.length) (W (v2 - 1))) (by kernel_rfl) ?_
       have z0 : (splice (flat c3 v1) (0 + Int.toNat v2 * 1) [(iv 1)]) = flat c3 (v1.set (Int.toNat v2) 1) := (flat_set c3_len (by first | omega | (simp only [List.length_set]; omega)) (i := Int.toNat v2) (o := 0) (d := default) (y := 1) (xs := [(iv 1)]) (Nat.le_of_ble_eq_true rfl) rfl)
       have z1 : v1.length = (v1.set (Int.toNat v2) 1).length := by simp
       rw [z0, z1]
       exact ih (v1.set (Int.toNat v2) 1) (W (v2 - 1)) (by refine ⟨?_, ?_, ?_⟩ <;> (try simp only [List.length_append, List.length_cons, List.length_nil, Int.toNat_zero]) <;> first | omega | assumption | simp) (by (try simp only [List.length_append, List.length_cons, List.length_nil, Int.toNat_zero]); omega)
    | false =>
     have q0 := of_decide_eq_false h0
     let t1 : List (St Tryz.prog) := [.d h0]
     cases h1 : ((((v1.length : Nat) : Int) : Int) == 0) with
     | true =>
      have q1 := eq_of_beq h1
      have e := Eq.refl (S33_0 a0 (v1, v2)); conv at e => rhs; simp only [S33_0, h0, h1, cond_true, cond_false]
      rw [loopF_s, e]
      exact rt (t1 ++ [.d h1]) [] [] hcx (by kernel_rfl)
     | false =>
      have q1 := ne_of_beq_false h1
      have e := Eq.refl (S33_0 a0 (v1, v2)); conv at e => rhs; simp only [S33_0, h0, h1, cond_true, cond_false]
      rw [loopF_s, e]
      exact rt (t1 ++ [.d h1, .i 0 (v1.length), .L c3_len v1 0 0 1]) [] [] hcx (by kernel_rfl)

def F33 (a0 : List (Int) × List (Int × Int × Int × Int × (Int × Int × Int) × Int)) : Int :=
  (loopF (S33_0 a0) (Int.toNat ((W (((a0.2.length : Nat) : Int) - 1)) + 1) + 1) ((List.replicate (Int.toNat ((a0.2.length : Nat) : Int)) 0), (W (((a0.2.length : Nat) : Int) - 1))))

theorem C33 (a0 : List (Int) × List (Int × Int × Int × Int × (Int × Int × Int) × Int)) (l0_1 : a0.1.length ≤ 9223372036854775807) (l0_2 : a0.2.length ≤ 9223372036854775807) (hl : a0.2.length ≤ 1048576) : Con Tryz.prog 33 [(.a [(.s 0 0 a0.1.length 1), (.s 1 0 a0.2.length 8)])] [(.live false true (flat c3 a0.1)), (.live false true (flat c75 a0.2))] (iv (F33 a0)) [] := by
  refine con_s Tryz.func33 (by kernel_rfl) fun cx hcx => ?_
  have hw_i := W_eq (n := ((a0.2.length : Nat) : Int) - 1) (by omega) (by omega)
  have e := Eq.refl (F33 a0); conv at e => rhs; simp only [F33]
  rw [e]
  refine en [.Z c3 0 [(iv 0)] ((a0.2.length : Nat) : Int) 8] [] [1, 3, 4] [2, 3] hcx B33_0 (K33_0) (st33_0 a0 (flat c3 (List.replicate (Int.toNat ((a0.2.length : Nat) : Int)) 0)) (Int.toNat ((a0.2.length : Nat) : Int)) (W (((a0.2.length : Nat) : Int) - 1))) (Int.toNat ((W (((a0.2.length : Nat) : Int) - 1)) + 1) + 1) (by kernel_rfl) ?_
  have q := L33_0 a0 l0_1 l0_2 hl hcx (Int.toNat ((W (((a0.2.length : Nat) : Int) - 1)) + 1) + 1) (List.replicate (Int.toNat ((a0.2.length : Nat) : Int)) 0) (W (((a0.2.length : Nat) : Int) - 1)) (by refine ⟨?_, ?_, ?_⟩ <;> (try simp only [List.length_append, List.length_cons, List.length_nil, Int.toNat_zero]) <;> first | omega | assumption | simp) (by (try simp only [List.length_append, List.length_cons, List.length_nil, Int.toNat_zero]); omega)
  simp only [List.length_replicate] at q
  exact q

end Go.Proofs.YtnbpiejjeeomkaaGreat

namespace Go.Proofs.YtnbpiejjeeomkaaGreat
open Go.Proofs Go.Aw Go.RowKit
set_option maxRecDepth 100000
set_option linter.unusedVariables false
set_option linter.unusedSimpArgs false

def F10 : Bool :=
  (bif (((F31_L F32 1).2 : Int) == 0) then
   (bif (((((F31_L F32 1).1.2.length : Nat) : Int) : Int) == 7) then
    (bif (((F33 ((F31_L F32 1).1.1, (F31_L F32 1).1.2)) : Int) == 3) then
     (bif (((F34 ((F31_L F32 1).1.1, (F31_L F32 1).1.2)) : Int) == 4) then
      (bif ((((F31_L F32 1).1.2.getD (Int.toNat 0) default).2.2.1 : Int) == 1) then
       ((((F31_L F32 1).1.2.getD (Int.toNat 0) default).2.2.2.1 : Int) == 4)
      else
       false)
     else
      false)
    else
     false)
   else
    false)
  else
   false)

theorem C10 : Con Tryz.prog 10 [] [] (.v (.bool F10)) [] := by
  refine con_s Tryz.func10 (by kernel_rfl) fun cx hcx => ?_
  have hrl : F32.length = 4 := by kernel_rfl
  have hbl : (F31_L F32 1).1.2.length = 7 := by kernel_rfl
  have hbo : (F31_L F32 1).1.1.length = 4 := by kernel_rfl
  let t0 : List (St Tryz.prog) := [.c [] (C32), .c [0] (C31_L F32 1 (by (try simp only [List.length_append, List.length_cons, List.length_nil, Int.toNat_zero]); omega) (by (try simp only [List.length_append, List.length_cons, List.length_nil, Int.toNat_zero]); omega))]
  cases h0 : (((F31_L F32 1).2 : Int) == 0) with
  | true =>
   have q0 := eq_of_beq h0
   let t1 : List (St Tryz.prog) := (t0 ++ [.d h0])
   cases h1 : (((((F31_L F32 1).1.2.length : Nat) : Int) : Int) == 7) with
   | true =>
    have q1 := eq_of_beq h1
    let t2 : List (St Tryz.prog) := (t1 ++ [.d h1, .c [1, 2] (C33 ((F31_L F32 1).1.1, (F31_L F32 1).1.2) (by (try simp only [List.length_append, List.length_cons, List.length_nil, Int.toNat_zero]); omega) (by (try simp only [List.length_append, List.length_cons, List.length_nil, Int.toNat_zero]); omega) (by (try simp only [List.length_append, List.length_cons, List.length_nil, Int.toNat_zero]); omega))])
    cases h2 : (((F33 ((F31_L F32 1).1.1, (F31_L F32 1).1.2)) : Int) == 3) with
    | true =>
     have q2 := eq_of_beq h2
     let t3 : List (St Tryz.prog) := (t2 ++ [.d h2, .c [1, 2] (C34 ((F31_L F32 1).1.1, (F31_L F32 1).1.2) (by (try simp only [List.length_append, List.length_cons, List.length_nil, Int.toNat_zero]); omega) (by (try simp only [List.length_append, List.length_cons, List.length_nil, Int.toNat_zero]); omega) (by (try simp only [List.length_append, List.length_cons, List.length_nil, Int.toNat_zero]); omega))])
     cases h3 : (((F34 ((F31_L F32 1).1.1, (F31_L F32 1).1.2)) : Int) == 4) with
     | true =>
      have q3 := eq_of_beq h3
      let t4 : List (St Tryz.prog) := (t3 ++ [.d h3, .i 0 ((F31_L F32 1).1.2.length), .L c75_len (F31_L F32 1).1.2 0 2 1])
      cases h4 : ((((F31_L F32 1).1.2.getD (Int.toNat 0) default).2.2.1 : Int) == 1) with
      | true =>
       have q4 := eq_of_beq h4
       have e := Eq.refl F10; conv at e => rhs; simp only [F10, h0, h1, h2, h3, h4, cond_true, cond_false]
       rw [e]
       exact rt (t4 ++ [.d h4, .i 0 ((F31_L F32 1).1.2.length), .L c75_len (F31_L F32 1).1.2 0 3 1]) [] [] hcx (by kernel_rfl)
      | false =>
       have q4 := ne_of_beq_false h4
       have e := Eq.refl F10; conv at e => rhs; simp only [F10, h0, h1, h2, h3, h4, cond_true, cond_false]
       rw [e]
       exact rt (t4 ++ [.d h4]) [] [] hcx (by kernel_rfl)
     | false =>
      have q3 := ne_of_beq_false h3
      have e := Eq.refl F10; conv at e => rhs; simp only [F10, h0, h1, h2, h3, cond_true, cond_false]
      rw [e]
      exact rt (t3 ++ [.d h3]) [] [] hcx (by kernel_rfl)
    | false =>
     have q2 := ne_of_beq_false h2
     have e := Eq.refl F10; conv at e => rhs; simp only [F10, h0, h1, h2, cond_true, cond_false]
     rw [e]
     exact rt (t2 ++ [.d h2]) [] [] hcx (by kernel_rfl)
   | false =>
    have q1 := ne_of_beq_false h1
    have e := Eq.refl F10; conv at e => rhs; simp only [F10, h0, h1, cond_true, cond_false]
    rw [e]
    exact rt (t1 ++ [.d h1]) [] [] hcx (by kernel_rfl)
  | false =>
   have q0 := ne_of_beq_false h0
   have e := Eq.refl F10; conv at e => rhs; simp only [F10, h0, cond_true, cond_false]
   rw [e]
   exact rt (t0 ++ [.d h0]) [] [] hcx (by kernel_rfl)

theorem sane_5 : F10 = true := by kernel_rfl

end Go.Proofs.YtnbpiejjeeomkaaGreat

namespace Go.Proofs.YtnbpiejjeeomkaaGreat
open Go.Proofs Go.Aw Go.RowKit
set_option maxRecDepth 100000
set_option linter.unusedVariables false
set_option linter.unusedSimpArgs false

/-! ### Charged panels: program and document -/
theorem win3_eq (n lo hi : Int) : F82 n lo hi = F87 n lo hi := by
  unfold F82 F87
  by_cases h1 : lo ≤ n <;> by_cases h2 : n ≤ hi <;> simp [h1, h2]
theorem vch_eq (l : List (PN × Int)) : F41_L l = F43_L l := by
  have e : S41_L_0 l = S43_L_0 l := by
    funext v
    simp only [S41_L_0, S43_L_0, vp_s, vp_r, win3_eq]
  unfold F41_L F43_L
  rw [e]
theorem vch_lenr {l : List (PN × Int)} (h : F43_L l = 0) : l.length ≤ 96 := vch_len (by rw [vch_eq]; exact h)

end Go.Proofs.YtnbpiejjeeomkaaGreat
