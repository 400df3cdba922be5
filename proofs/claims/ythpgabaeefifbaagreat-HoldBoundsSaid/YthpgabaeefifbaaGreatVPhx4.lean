/-
  Parts of the proofs of the laws: the executor, what functions of the program compute, and that it is what the statements ask. No premise.
-/
import Derived.Test.YthpgabaeefifbaaGreatVPhx3
import Derived.ProofKit
import Derived.OpenShut
import Derived.Deep.Slices
import Derived.RowKit
namespace Go.Proofs.YthpgabaeefifbaaGreat
open Go.Proofs Go.Aw Go.RowKit
set_option maxRecDepth 100000
set_option linter.unusedVariables false
set_option linter.unusedSimpArgs false

/-! ### From the contract to the row -/
open Go.ChangeShapes Go.WideShapes Go.ChangeAt
def contB (P : Program) (ok : TypeId → Bool) (n : Nat) : List Field → Nat → Bool
  | [], o => o == n
  | f :: l, o => f.offset == o && ok f.type && contB P ok n l (o + P.cellsOf f.type)
def flatB (P : Program) : Nat → TypeId → Bool
  | 0, _ => false
  | k + 1, t => match P.underlying t with
    | some (.int .i64) => true
    | some (.struct fs) => contB P (flatB P k) (P.cellsOf t) fs.toList 0
    | some (.array n e) => flatB P k e && P.cellsOf t == n * P.cellsOf e
    | _ => false
section
variable {H : Type} {enc : TypeId × Value → H} {P : Program} {w : World} {base : Nat} {spare : Nat → Bool} {held : Bool}
theorem cont_trod {ok : TypeId → Bool} {n fuel : Nat} {cs : List Value}
    (hok : ∀ t cs x, ok t = true → DataW.trod enc P w base spare held fuel t cs = some x → x.2 = [] ∧ ∃ ns : List Int, cs = ns.map (Value.int .i64)) (hn : cs.length = n) :
    ∀ (l : List Field) (o : Nat) (ys : List (DataW H × List MemPlace)), contB P ok n l o = true → ys.length = l.length →
      (∀ (j : Nat) (f : Field), l[j]? = some f → DataW.trod enc P w base spare held fuel f.type ((cs.drop f.offset).take (P.cellsOf f.type)) = ys[j]?) →
      (∀ y ∈ ys, y.2 = []) ∧ ∃ ns : List Int, cs.drop o = ns.map (Value.int .i64)
  | [], o, ys, hc, hl, _ => by
    have : ys = [] := List.length_eq_zero_iff.1 hl
    subst this
    simp only [contB, beq_iff_eq] at hc
    exact ⟨fun y hy => by simp at hy, [], by rw [hc, ← hn, List.drop_length]; rfl⟩
  | f :: l, o, ys, hc, hl, hf => by
    cases ys with
    | nil => simp at hl
    | cons y ys =>
      simp only [contB, Bool.and_eq_true, beq_iff_eq] at hc
      obtain ⟨⟨h1, h2⟩, h3⟩ := hc
      have g0 := hf 0 f rfl
      rw [h1] at g0
      obtain ⟨e1, n1, e2⟩ := hok f.type _ y h2 g0
      obtain ⟨e3, n2, e4⟩ := cont_trod hok hn l _ ys h3 (by simpa using hl) (fun j g hg => hf (j + 1) g hg)
      refine ⟨fun z hz => ?_, n1 ++ n2, ?_⟩
      · rcases List.mem_cons.1 hz with rfl | hz
        · exact e1
        · exact e3 z hz
      · rw [List.map_append, ← e2, ← e4, ← List.drop_drop, List.take_append_drop]
theorem flat_trod : ∀ (k : Nat) (t : TypeId) (fuel : Nat) (cs : List Value) (x : DataW H × List MemPlace), flatB P k t = true → DataW.trod enc P w base spare held fuel t cs = some x →
    x.2 = [] ∧ ∃ ns : List Int, cs = ns.map (Value.int .i64)
  | 0, _, _, _, _, h, _ => by simp [flatB] at h
  | k + 1, t, fuel, cs, x, h, hx => by
    unfold flatB at h
    split at h
    · rename_i ht
      obtain ⟨n, rfl, rfl, _⟩ := DataW.trod_int ht hx
      exact ⟨rfl, [n], rfl⟩
    · rename_i fs ht
      obtain ⟨xs, m, rfl, rfl, hl, hlen, hf⟩ := DataW.trod_struct ht hx
      obtain ⟨e1, ns, e2⟩ := cont_trod (fun t cs x h hx => flat_trod k t m cs x h hx) hl fs.toList 0 xs h (by simpa using hlen) (fun j f hj => hf j f (by simpa using hj))
      refine ⟨?_, ns, by simpa using e2⟩
      simp only
      induction xs with
      | nil => rfl
      | cons y l _ => rw [List.flatMap_eq_nil_iff]; exact e1
    · rename_i n e ht
      simp only [Bool.and_eq_true, beq_iff_eq] at h
      obtain ⟨xs, m, rfl, rfl, hl, hlen, hf⟩ := DataW.trod_array ht hx
      have hi : ∀ i, i < n → ∃ y, xs[i]? = some y ∧ y.2 = [] ∧ ∃ ns : List Int, (cs.drop (i * P.cellsOf e)).take (P.cellsOf e) = ns.map (Value.int .i64) := fun i hi => by
        have h1 := hf i hi
        have hil : i < xs.length := by rw [hlen]; exact hi
        rw [List.getElem?_eq_getElem hil] at h1
        obtain ⟨e1, e2⟩ := flat_trod k e m _ _ h.1 h1
        exact ⟨_, List.getElem?_eq_getElem hil, e1, e2⟩
      refine ⟨?_, ?_⟩
      · simp only
        rw [List.flatMap_eq_nil_iff]
        intro y hy
        obtain ⟨i, hy⟩ := List.getElem?_of_mem hy
        have hil := (List.getElem?_eq_some_iff.1 hy).1
        obtain ⟨y', h1, h2, _⟩ := hi i (by rw [← hlen]; exact hil)
        rw [h1] at hy
        exact Option.some.inj hy ▸ h2
      · have key : ∀ j, j ≤ n → ∃ ns : List Int, cs.drop ((n - j) * P.cellsOf e) = ns.map (Value.int .i64) := by
          intro j
          induction j with
          | zero => intro _; exact ⟨[], by rw [Nat.sub_zero, ← h.2, ← hl, List.drop_length]; rfl⟩
          | succ j ih =>
            intro hj
            obtain ⟨n2, h2⟩ := ih (by omega)
            obtain ⟨_, _, _, n1, h1⟩ := hi (n - (j + 1)) (by omega)
            refine ⟨n1 ++ n2, ?_⟩
            rw [List.map_append, ← h1, ← h2, show (n - j) * P.cellsOf e = (n - (j + 1)) * P.cellsOf e + P.cellsOf e by rw [show n - j = (n - (j + 1)) + 1 by omega, Nat.add_mul, Nat.one_mul], ← List.drop_drop, List.take_append_drop]
        obtain ⟨ns, hns⟩ := key n (Nat.le_refl _)
        exact ⟨ns, by simpa using hns⟩
    · cases h
end
theorem rels_iv {ρ : Env} : ∀ ns : List Int, Rels ρ (ns.map iv) (ns.map (Value.int .i64))
  | [] => trivial
  | n :: l => ⟨rfl, rels_iv l⟩
theorem post_below {H : Type} {enc : TypeId × Value → H} {P : Program} {f : Func} {s : ChangeSpec} {apart fresh handsOn : Bool} {W W' : World} {args : Array Value} {v : Value} {ds gs : List (DataW H)} {before : List MemPlace}
    (hW : DataW.Whole enc P f.params.toList s.vars apart W args.toList ds gs before) (hb : Below W.heap.size W W')
    (hres : ∀ (b : Nat) (sp : Nat → Bool) (hd : Bool), DataW.TrodAll enc P W' b sp hd f.resultTypes.toList (v.resultList f.resultTypes.size) (s.fn H (ds ++ gs)).results [])
    (hargs : DataW.TrodAll enc P W' 0 (fun b => decide (b < W.heap.size)) true f.params.toList args.toList (s.fn H (ds ++ gs)).args before)
    (hvars : DataW.TrodVars enc P W' (fun b => decide (b < W.heap.size)) s.vars (s.fn H (ds ++ gs)).vars []) :
    s.post enc P f apart fresh handsOn false W args v W' :=
  ⟨ds, gs, before, [], before, [], hW, hres _ _ _, hargs, hvars, hb.frame _, fun h => by cases h⟩
theorem all_mk {H : Type} {enc : TypeId × Value → H} {P : Program} {w : World} {base : Nat} {spare : Nat → Bool} {held : Bool} {t : TypeId} {ts : List TypeId} {v : Value} {vs : List Value} {d : DataW H} {ds : List (DataW H)} {p p' : List MemPlace}
    (h : DataW.Trod enc P w base spare held t v d p) (h' : DataW.TrodAll enc P w base spare held ts vs ds p') : DataW.TrodAll enc P w base spare held (t :: ts) (v :: vs) (d :: ds) (p ++ p') := ⟨p, p', h, h', rfl⟩
theorem own : ownKnob Tryz.prog.godebug = none := by kernel_rfl
theorem laidOut : laidOutB Tryz.prog = true := by kernel_rfl

end Go.Proofs.YthpgabaeefifbaaGreat

namespace Go.Proofs.YthpgabaeefifbaaGreat
open Go.Proofs Go.Aw Go.RowKit
set_option maxRecDepth 100000
set_option linter.unusedVariables false
set_option linter.unusedSimpArgs false

/-! ### Scales -/
def sc (d : Int) : Int := if d = 0 then 1 else if d = 1 then 2 else if d = 2 then 4 else 8
theorem d4 {d : Int} (h : 0 ≤ d ∧ d ≤ 3) : d = 0 ∨ d = 1 ∨ d = 2 ∨ d = 3 := by omega
theorem sc_f {d : Int} (h : 0 ≤ d ∧ d ≤ 3) : W (1 * 2 ^ (min (Int.toNat d) 64)) = sc d := by
  rcases d4 h with rfl | rfl | rfl | rfl <;> kernel_rfl
theorem sc_r {d : Int} (h : 0 ≤ d ∧ d ≤ 3) : W (1 * 2 ^ (min (Int.toNat (IntKind.wrap .u64 d)) 64)) = sc d := by
  rcases d4 h with rfl | rfl | rfl | rfl <;> kernel_rfl
theorem cnt_f {d : Int} (h : 0 ≤ d ∧ d ≤ 3) : W (1 * 2 ^ (min (Int.toNat (W (2 * d))) 64)) = sc d * sc d := by
  rcases d4 h with rfl | rfl | rfl | rfl <;> kernel_rfl
theorem cnt_len {d : Int} (h : 0 ≤ d ∧ d ≤ 3) (p : PN) : (((cutL d.toNat p).length : Nat) : Int) = sc d * sc d := by
  rw [cutL_len]; rcases d4 h with rfl | rfl | rfl | rfl <;> kernel_rfl
theorem sc_in (d : Int) : sc d = 1 ∨ sc d = 2 ∨ sc d = 4 ∨ sc d = 8 := by unfold sc; (repeat' split) <;> simp
theorem sc_bd (d : Int) : 1 ≤ sc d ∧ sc d ≤ 8 := by have := sc_in d; omega
def tm (s : Int) (p : P3) : P3 := (s * p.1, s * p.2.1, s * p.2.2)
theorem bd_tm {s m : Int} {p : P3} (hs : 1 ≤ s ∧ s ≤ 8) (hm : 0 ≤ m) (hp : bd m p) : bd (8 * m) (tm s p) := by
  have h1 := mul_bd (a := 8) (b := m) (x := s) (y := p.1) (by omega) hp.1
  have h2 := mul_bd (a := 8) (b := m) (x := s) (y := p.2.1) (by omega) hp.2.1
  have h3 := mul_bd (a := 8) (b := m) (x := s) (y := p.2.2) (by omega) hp.2.2
  exact ⟨h1, h2, h3⟩
theorem tm_W {s : Int} {p : P3} (hs : 1 ≤ s ∧ s ≤ 8) (hp : bd 4096 p) : ((W (s * p.1)), (W (s * p.2.1)), (W (s * p.2.2))) = tm s p := by
  have h := bd_tm hs (by omega) hp
  have h1 := h.1; have h2 := h.2.1; have h3 := h.2.2
  simp only [tm] at h1 h2 h3
  unfold tm
  rw [W_eq (n := s * p.1) (by omega) (by omega), W_eq (n := s * p.2.1) (by omega) (by omega), W_eq (n := s * p.2.2) (by omega) (by omega)]
theorem tm_f {s : Int} {p : P3} (hs : 1 ≤ s ∧ s ≤ 8) (hp : bd 4096 p) : F89 p s = tm s p := tm_W hs hp
theorem tm_r {s : Int} {p : P3} (hs : 1 ≤ s ∧ s ≤ 8) (hp : bd 4096 p) : F94 p s = tm s p := tm_W hs hp
/-! ### Spans of numbers that are small -/
theorem res_f {a b : Int} (h1 : -1099511627776 ≤ a) (h2 : a ≤ b) (h3 : b ≤ 1099511627776) : F74 a b = ((a, b), 0) := by
  unfold F74 F113
  rw [decide_eq_true (show (a, b).1 ≥ -1099511627776 from h1), decide_eq_true (show (a, b).1 ≤ (a, b).2 from h2), decide_eq_true (show (a, b).2 ≤ 1099511627776 from h3)]; rfl
theorem res_r {a b : Int} (h1 : -1099511627776 ≤ a) (h2 : a ≤ b) (h3 : b ≤ 1099511627776) : F84 a b = ((a, b), 0) := by
  unfold F84 F95
  rw [decide_eq_true (show (a, b).1 ≥ -1099511627776 from h1), decide_eq_true (show (a, b).1 ≤ (a, b).2 from h2), decide_eq_true (show (a, b).2 ≤ 1099511627776 from h3)]; rfl
/-! ### Roots of quotients -/
theorem rt_eq {n : Int} (h0 : 0 ≤ n) (h : n < 4611686018427387904) : F163 n = F73 n := (rtRef h0 h).eq (rtSpan h0 h)
noncomputable def inv (N n : Int) : Int × Int :=
  (F73 (N / n), if F73 (N / n) * F73 (N / n) * n = N then F73 (N / n) else F73 (N / n) + 1)
theorem quo_bd {N n : Int} (hN : 0 ≤ N) (hn : 1 ≤ n) : 0 ≤ N / n ∧ N / n ≤ N ∧ (N / n) * n ≤ N := by
  have h1 : 0 ≤ N / n := Int.ediv_nonneg hN (by omega)
  have h2 : (N / n) * n ≤ N := Int.ediv_mul_le N (by omega)
  have h3 : (N / n) * 1 ≤ (N / n) * n := Int.mul_le_mul_of_nonneg_left hn h1
  omega
theorem inv_facts {N n : Int} (hN : 0 ≤ N ∧ N ≤ 288230376151711744) (hn : 1 ≤ n) :
    ∃ k, F73 (N / n) = k ∧ IsRt (N / n) k ∧ 0 ≤ k ∧ k ≤ 536870912 ∧ 0 ≤ k * k ∧ k * k ≤ N / n ∧ 0 ≤ k * k * n ∧ k * k * n ≤ N := by
  obtain ⟨h1, h2, h3⟩ := quo_bd hN.1 hn
  have h := rtSpan (n := N / n) h1 (by omega)
  have h4 := h.le (m := 536870912) (by omega) (by omega)
  have h5 : 0 ≤ F73 (N / n) * F73 (N / n) := Int.mul_nonneg h.1 h.1
  exact ⟨_, rfl, h, h.1, h4, h5, h.2.1, Int.mul_nonneg h5 (by omega), Int.le_trans (Int.mul_le_mul_of_nonneg_right h.2.1 (by omega)) h3⟩
theorem inv_f {N n : Int} (hN : 0 ≤ N ∧ N ≤ 288230376151711744) (hn : 1 ≤ n) : F150 N n = (inv N n, 0) := by
  obtain ⟨k, hk, _, k0, k1, k2, k3, k4, k5⟩ := inv_facts hN hn
  obtain ⟨h1, h2, h3⟩ := quo_bd hN.1 hn
  unfold F150 inv
  rw [Int.tdiv_eq_ediv_of_nonneg hN.1, W_eq (n := N / n) (by omega) (by omega), hk, W_eq (n := k * k) (by omega) (by omega), W_eq (n := k * k * n) (by omega) (by omega), W_eq (n := k + 1) (by omega) (by omega),
    res_f (by omega) (Int.le_refl k) (by omega), res_f (by omega) (by omega) (by omega)]
  by_cases h : k * k * n = N
  · rw [if_pos h, beq_iff_eq.2 h]; rfl
  · rw [if_neg h, beq_eq_false_iff_ne.2 h]; rfl
theorem inv_r {N n : Int} (hN : 0 ≤ N ∧ N ≤ 288230376151711744) (hn : 1 ≤ n) : F158 N n = (inv N n, 0) := by
  obtain ⟨k, hk, _, k0, k1, k2, k3, k4, k5⟩ := inv_facts hN hn
  obtain ⟨h1, h2, h3⟩ := quo_bd hN.1 hn
  unfold F158 inv
  rw [Int.tdiv_eq_ediv_of_nonneg hN.1, W_eq (n := N / n) (by omega) (by omega), rt_eq h1 (by omega), hk, W_eq (n := k * k) (by omega) (by omega), W_eq (n := k + 1) (by omega) (by omega),
    res_r (by omega) (Int.le_refl k) (by omega), res_r (by omega) (by omega) (by omega), Int.tmod_eq_emod_of_nonneg hN.1]
  have hdm : n * (N / n) + N % n = N := Int.mul_ediv_add_emod N n
  by_cases h0 : N % n = 0
  · rw [beq_iff_eq.2 h0, cond_true]
    by_cases h : k * k = N / n
    · rw [beq_iff_eq.2 h, cond_true, if_pos (by rw [h, Int.mul_comm]; omega)]
    · rw [beq_eq_false_iff_ne.2 h, cond_false, if_neg]
      intro h'
      rw [h0, Int.add_zero, Int.mul_comm] at hdm
      exact h (Int.eq_of_mul_eq_mul_right (by omega) (h'.trans hdm.symm))
  · rw [beq_eq_false_iff_ne.2 h0, cond_false, if_neg]
    intro h'
    rw [← h'] at h0
    exact h0 (Int.mul_emod_left _ _)
theorem inv_bd {N n : Int} (hN : 0 ≤ N ∧ N ≤ 288230376151711744) (hn : 1 ≤ n) : 0 ≤ (inv N n).1 ∧ (inv N n).1 ≤ (inv N n).2 ∧ (inv N n).2 ≤ 536870913 := by
  obtain ⟨k, hk, _, k0, k1, _⟩ := inv_facts hN hn
  unfold inv
  rw [hk]
  simp only
  split <;> omega
theorem inv_mono {N n m : Int} (hN : 0 ≤ N ∧ N ≤ 288230376151711744) (hn : 1 ≤ n) (hm : n ≤ m) : (inv N m).1 ≤ (inv N n).1 := by
  obtain ⟨h1, h2, h3⟩ := quo_bd hN.1 hn
  obtain ⟨g1, g2, g3⟩ := quo_bd (n := m) hN.1 (by omega)
  have h : N / m ≤ N / n := by
    refine Int.le_ediv_of_mul_le (by omega) (Int.le_trans (Int.mul_le_mul_of_nonneg_left hm g1) g3)
  exact (rtSpan g1 (by omega)).mono (rtSpan h1 (by omega)) h
def NN (s : Int) : Int := s * s * 1099511627776
theorem NN_bd {s : Int} (h : s = 1 ∨ s = 2 ∨ s = 4 ∨ s = 8) : 0 ≤ NN s ∧ NN s ≤ 288230376151711744 := by rcases h with rfl | rfl | rfl | rfl <;> decide
noncomputable def of1 (s n : Int) : Int × Int := if n < 1 then (0, 0) else inv (NN s) n
theorem lt8f {s : Int} (h : s = 1 ∨ s = 2 ∨ s = 4 ∨ s = 8) : decide (s < 1) = false ∧ decide (s > 8) = false := by
  rcases h with rfl | rfl | rfl | rfl <;> decide
theorem lt8 {s : Int} (h : s = 1 ∨ s = 2 ∨ s = 4 ∨ s = 8) : decide (s < 1) = false ∧ decide (s > 8) = false ∧ F82 s 1 8 = true := by
  rcases h with rfl | rfl | rfl | rfl <;> decide
theorem one_f {s n : Int} (hs : s = 1 ∨ s = 2 ∨ s = 4 ∨ s = 8) (hn : n ≤ 1000000000) : (F121 n s).1 = of1 s n := by
  obtain ⟨e1, e2⟩ := lt8f hs
  unfold F121 of1
  by_cases h : n < 1
  · rw [decide_eq_true h, cond_true, if_pos h]
  · have e : W ((W (s * s)) * 2 ^ (min (Int.toNat 40) 64)) = NN s := by rcases hs with rfl | rfl | rfl | rfl <;> kernel_rfl
    rw [decide_eq_false h, cond_false, decide_eq_false (show ¬ n > 1099511627776 by omega), cond_false, e1, cond_false, e2, cond_false, if_neg h, e, inv_f (NN_bd hs) (by omega)]
theorem one_r {s n : Int} (hs : s = 1 ∨ s = 2 ∨ s = 4 ∨ s = 8) (hn : n ≤ 1000000000) : (F130 n s).1 = of1 s n := by
  obtain ⟨_, _, e3⟩ := lt8 hs
  unfold F130 of1
  by_cases h : n < 1
  · rw [within_eq1, decide_eq_false (show ¬ (1 ≤ n ∧ n ≤ 1099511627776) by omega), if_pos h]; rfl
  · have e : W ((W ((W (1048576 * s)) * 1048576)) * s) = NN s := by rcases hs with rfl | rfl | rfl | rfl <;> kernel_rfl
    rw [e3, within_eq1, decide_eq_true (show (1 ≤ n ∧ n ≤ 1099511627776) by omega), if_neg h, e, inv_r (NN_bd hs) (by omega)]; rfl
structure OfOk (of : Int → Int × Int) : Prop where
  lo : ∀ n, 0 ≤ (of n).1
  le : ∀ n, (of n).1 ≤ (of n).2
  hi : ∀ n, (of n).2 ≤ 536870913
  mono : ∀ n m, 1 ≤ n → n ≤ m → (of m).1 ≤ (of n).1
theorem of1_ok {s : Int} (hs : s = 1 ∨ s = 2 ∨ s = 4 ∨ s = 8) : OfOk (of1 s) := by
  have hb : ∀ n, 0 ≤ (of1 s n).1 ∧ (of1 s n).1 ≤ (of1 s n).2 ∧ (of1 s n).2 ≤ 536870913 := by
    intro n
    unfold of1
    split
    · simp
    · exact inv_bd (NN_bd hs) (by omega)
  refine ⟨fun n => (hb n).1, fun n => (hb n).2.1, fun n => (hb n).2.2, fun n m h1 h2 => ?_⟩
  unfold of1
  rw [if_neg (by omega), if_neg (by omega)]
  exact inv_mono (NN_bd hs) h1 h2
end Go.Proofs.YthpgabaeefifbaaGreat

namespace Go.Proofs.YthpgabaeefifbaaGreat
open Go.Proofs Go.Aw Go.RowKit
set_option maxRecDepth 100000
set_option linter.unusedVariables false
set_option linter.unusedSimpArgs false

/-! ### The mean -/
def fa (c : PN) (x : P3) : Int := mx (mx (mx 0 (ds c.1 x)) (ds c.2.1 x)) (ds c.2.2 x)
def ne (c : PN) (x : P3) : Int := nr (blo c) (bhi c) x x
theorem ds_bd {p q : P3} (hp : bd 5000 p) (hq : bd 5000 q) : 0 ≤ ds p q ∧ ds p q ≤ 300000000 := by
  have h := bd_sb hp hq
  have := dt_bd h h
  exact ⟨dt_self _, by unfold ds; omega⟩
theorem sq_le {a b : Int} (ha : 0 ≤ a) (h : a ≤ b ∨ a ≤ -b) : a * a ≤ b * b := by
  rcases h with h | h
  · exact Int.mul_le_mul h h ha (by omega)
  · have := Int.mul_le_mul h h ha (by omega)
    rwa [Int.neg_mul_neg] at this
theorem nr_nn (a b c d : P3) : 0 ≤ nr a b c d := by
  have h1 := sq_nn (gp a.1 b.1 c.1 d.1); have h2 := sq_nn (gp a.2.1 b.2.1 c.2.1 d.2.1); have h3 := sq_nn (gp a.2.2 b.2.2 c.2.2 d.2.2)
  unfold nr; omega
noncomputable def acc (of : Int → Int × Int) (x : P3) : List PN → Int × Int → (Int × Int) ⊕ ((Int × Int) × Int)
  | [], v => .inl v
  | c :: l, v => if ne c x = 0 then .inr ((0, 0), 10) else acc of x l (v.1 + (of (fa c x)).1, v.2 + (of (ne c x)).2)
def okv (v : Int × Int) (n : Nat) : Prop := 0 ≤ v.1 ∧ v.1 ≤ v.2 ∧ v.2 + 536870913 * n ≤ 34359738432
/-! division by small numbers -/
theorem dn_f {a n : Int} (hn : n = 1 ∨ n = 4 ∨ n = 16 ∨ n = 64) (ha : -1099511627776 ≤ a ∧ a ≤ 1099511627776) : F140 a n = a / n := by
  unfold F140
  have h0 : ∀ b : Int, decide (n < 0) = false := fun _ => decide_eq_false (by omega)
  rw [h0 0]
  have key : (bif ((Int.tmod a n : Int) != 0) then (bif (!(decide (a < 0) == false)) then W (W (Int.tdiv a n) - 1) else W (Int.tdiv a n)) else W (Int.tdiv a n)) = if Int.tmod a n ≠ 0 ∧ a < 0 then W (W (Int.tdiv a n) - 1) else W (Int.tdiv a n) := by
    by_cases h1 : Int.tmod a n = 0
    · rw [h1]; simp
    · by_cases h2 : a < 0
      · rw [bne_iff_ne.2 h1, decide_eq_true h2, if_pos ⟨h1, h2⟩]; rfl
      · rw [bne_iff_ne.2 h1, decide_eq_false h2, if_neg (fun h => h2 h.2)]; rfl
  rw [key]
  rcases Int.lt_or_le a 0 with h | h
  · obtain ⟨b, rfl⟩ : ∃ b : Int, a = -b := ⟨-a, by omega⟩
    have hb : 0 ≤ b := by omega
    rw [Int.neg_tdiv, Int.neg_tmod, Int.tdiv_eq_ediv_of_nonneg hb, Int.tmod_eq_emod_of_nonneg hb]
    rcases hn with rfl | rfl | rfl | rfl <;>
    · rw [W_eq (n := -(b / _)) (by omega) (by omega)]
      split
      · rw [W_eq (by omega) (by omega)]; omega
      · omega
  · rw [if_neg (by omega), Int.tdiv_eq_ediv_of_nonneg h]
    rcases hn with rfl | rfl | rfl | rfl <;> exact W_eq (by omega) (by omega)
theorem dn_r {a n : Int} (hn : n = 1 ∨ n = 4 ∨ n = 16 ∨ n = 64) (ha : -1099511627776 ≤ a ∧ a ≤ 1099511627776) : F133 a n = a / n := by
  unfold F133
  rcases Int.lt_or_le a 0 with h | h
  · obtain ⟨b, rfl⟩ : ∃ b : Int, a = -b := ⟨-a, by omega⟩
    have hb : 0 ≤ b := by omega
    rw [Int.neg_tdiv, Int.neg_tmod, Int.tdiv_eq_ediv_of_nonneg hb, Int.tmod_eq_emod_of_nonneg hb]
    by_cases h1 : -(b % n) < (0 : Int)
    · rw [decide_eq_true h1, cond_true]
      rcases hn with rfl | rfl | rfl | rfl <;>
      · rw [W_eq (n := -(b / _)) (by omega) (by omega), W_eq (by omega) (by omega)]; omega
    · rw [decide_eq_false h1, cond_false]
      rcases hn with rfl | rfl | rfl | rfl <;>
      · rw [W_eq (n := -(b / _)) (by omega) (by omega)]; omega
  · rw [Int.tdiv_eq_ediv_of_nonneg h, Int.tmod_eq_emod_of_nonneg h]
    have : ¬ a % n < 0 := by have := Int.emod_nonneg a (show n ≠ 0 by omega); omega
    rw [decide_eq_false this, cond_false]
    rcases hn with rfl | rfl | rfl | rfl <;> exact W_eq (by omega) (by omega)
theorem up_f {a n : Int} (hn : n = 1 ∨ n = 4 ∨ n = 16 ∨ n = 64) (ha : -1099511627776 ≤ a ∧ a ≤ 1099511627776) : F141 a n = -(-a / n) := by
  unfold F141
  rw [W_eq (n := 0 - a) (by omega) (by omega), dn_f hn (by omega), Int.zero_sub]
  rcases hn with rfl | rfl | rfl | rfl <;> exact (W_eq (by omega) (by omega)).trans (by omega)
theorem up_r {a n : Int} (hn : n = 1 ∨ n = 4 ∨ n = 16 ∨ n = 64) (ha : -1099511627776 ≤ a ∧ a ≤ 1099511627776) : F134 a n = -(-a / n) := by
  unfold F134
  rw [W_eq (n := 0 - a) (by omega) (by omega), dn_r hn (by omega), Int.zero_sub]
  rcases hn with rfl | rfl | rfl | rfl <;> exact (W_eq (by omega) (by omega)).trans (by omega)
def avg (v : Int × Int) (n : Int) : Int × Int := (v.1 / n, -(-v.2 / n))
theorem val_f {a b : Int} (h1 : -1099511627776 ≤ a) (h2 : a ≤ b) (h3 : b ≤ 1099511627776) : F113 (a, b) = true := by
  unfold F113
  rw [decide_eq_true (show (a, b).1 ≥ -1099511627776 from h1), decide_eq_true (show (a, b).1 ≤ (a, b).2 from h2), decide_eq_true (show (a, b).2 ≤ 1099511627776 from h3)]; rfl
theorem avg_f {v : Int × Int} {n : Int} (hn : n = 1 ∨ n = 4 ∨ n = 16 ∨ n = 64) (h : okv v 0) : F124 v.1 v.2 n = avg v n := by
  unfold okv at h
  unfold F124 F153 F154_1
  rw [val_f (by omega) (by omega) (by omega)]
  simp only [Bool.not_true, cond_false, bne_self_eq_false]
  rw [decide_eq_false (show ¬ n < 1 by omega), decide_eq_false (show ¬ n > 1099511627776 by omega), cond_false, cond_false, dn_f hn (by omega), up_f hn (by omega)]
  have : v.1 / n ≤ -(-v.2 / n) ∧ -1099511627776 ≤ v.1 / n ∧ -(-v.2 / n) ≤ 1099511627776 := by
    rcases hn with rfl | rfl | rfl | rfl <;> omega
  rw [res_f this.2.1 this.1 this.2.2]; rfl
theorem cnt_in (d : Int) : sc d * sc d = 1 ∨ sc d * sc d = 4 ∨ sc d * sc d = 16 ∨ sc d * sc d = 64 := by
  rcases sc_in d with h | h | h | h <;> rw [h] <;> decide

end Go.Proofs.YthpgabaeefifbaaGreat

namespace Go.Proofs.YthpgabaeefifbaaGreat
open Go.Proofs Go.Aw Go.RowKit
set_option maxRecDepth 100000
set_option linter.unusedVariables false
set_option linter.unusedSimpArgs false

/-! ### The program's mean is the reference's -/
theorem cutL_in {p c : PN} {d : Int} (hp : bdP 64 p) (hd : 0 ≤ d ∧ d ≤ 3) (hc : c ∈ cutL d.toNat p) : bdP 512 c := by
  have key : ∀ k : Nat, k ≤ 3 → c ∈ cutL k p → bdP 512 c := by
    intro k hk hc
    have : k = 0 ∨ k = 1 ∨ k = 2 ∨ k = 3 := by omega
    rcases this with rfl | rfl | rfl | rfl <;> exact (cutL_bd (m := 64) _ hp (by decide) (by decide) hc).mono (by decide)
  exact key _ (by omega) hc
theorem okv_0 {p : PN} {d : Int} (hd : 0 ≤ d ∧ d ≤ 3) : okv (0, 0) (cutL d.toNat p).length := by
  have h := cnt_len hd p
  have h1 := cnt_in d
  unfold okv; simp only; omega
section
variable {p : PN} {x : P3} {d : Int}
end
end Go.Proofs.YthpgabaeefifbaaGreat

namespace Go.Proofs.YthpgabaeefifbaaGreat
open Go.Proofs Go.Aw Go.RowKit
set_option maxRecDepth 100000
set_option linter.unusedVariables false
set_option linter.unusedSimpArgs false

/-! ### The rim -/
def IsUp (T r : Int) : Prop := 0 ≤ r ∧ T ≤ r * r ∧ (r = 0 ∨ (r - 1) * (r - 1) < T)
theorem IsUp.le {T r m : Int} (h : IsUp T r) (hm : 0 ≤ m) (h' : T ≤ m * m) : r ≤ m := by
  rcases Int.lt_or_le m r with hlt | hle
  · rcases h.2.2 with h0 | h0
    · omega
    · have := Int.mul_le_mul (show m ≤ r - 1 by omega) (show m ≤ r - 1 by omega) hm (by omega)
      omega
  · exact hle
theorem IsUp.eq {T a b : Int} (h : IsUp T a) (h' : IsUp T b) : a = b := Int.le_antisymm (h.le h'.1 h'.2.1) (h'.le h.1 h.2.1)
theorem least_spec {T : Int} {S : Int × Int → (Int × Int) ⊕ Int} (hS : ∀ a b, 0 ≤ a → a < b → b ≤ 268435456 → S (a, b) = if T ≤ ((a + b) / 2) * ((a + b) / 2) then .inl (a, (a + b) / 2) else .inl ((a + b) / 2 + 1, b)) (h0 : ∀ a, S (a, a) = .inr a) :
    ∀ (f : Nat) (a b : Int), 0 ≤ a → a ≤ b → b ≤ 268435456 → b - a < f → T ≤ b * b → (a = 0 ∨ (a - 1) * (a - 1) < T) → IsUp T (loopF S f (a, b)) := by
  intro f
  induction f with
  | zero => intro a b _ h _ hf; omega
  | succ f ih =>
    intro a b ha hab hb hf h1 h2
    by_cases he : a = b
    · subst he
      rw [loopF_inr (h0 a)]; exact ⟨ha, h1, h2⟩
    · have hs := hS a b ha (by omega) hb
      by_cases hc : T ≤ ((a + b) / 2) * ((a + b) / 2)
      · rw [if_pos hc] at hs
        rw [loopF_inl hs]
        exact ih _ _ ha (by omega) (by omega) (by omega) hc h2
      · rw [if_neg hc] at hs
        rw [loopF_inl hs]
        refine ih _ _ (by omega) (by omega) hb (by omega) h1 (Or.inr ?_)
        rw [show (a + b) / 2 + 1 - 1 = (a + b) / 2 by omega]; omega
def top (d : Int) : Int := 3537128906555392 * (sc d * sc d)
theorem top_f {d : Int} (h : 0 ≤ d ∧ d ≤ 3) : W (3537128906555392 * 2 ^ (min (Int.toNat (W (2 * d))) 64)) = top d := by
  rcases d4 h with rfl | rfl | rfl | rfl <;> kernel_rfl
theorem top_r {d : Int} (h : 0 ≤ d ∧ d ≤ 3) : W ((W ((W (1099511627776 * (W (1 * 2 ^ (min (Int.toNat (IntKind.wrap .u64 d)) 64))))) * (W (1 * 2 ^ (min (Int.toNat (IntKind.wrap .u64 d)) 64))))) * 3217) = top d := by
  rcases d4 h with rfl | rfl | rfl | rfl <;> kernel_rfl
theorem top_bd (d : Int) : 3537128906555392 ≤ top d ∧ top d ≤ 226376250019545088 := by
  unfold top; have := cnt_in d; omega
def cq (t b : Int) : Int := -(-t / b)
theorem cq_facts {t b : Int} (hb : 1 ≤ b) : t ≤ cq t b * b ∧ (cq t b - 1) * b < t := by
  have h1 := Int.mul_ediv_add_emod (-t) b
  have h2 := Int.emod_nonneg (-t) (show b ≠ 0 by omega)
  have h3 := Int.emod_lt_of_pos (-t) (show 0 < b by omega)
  unfold cq
  have e : -(-t / b) * b = -(b * (-t / b)) := by rw [Int.neg_mul, Int.mul_comm]
  have e2 : (-(-t / b) - 1) * b = -(b * (-t / b)) - b := by rw [Int.sub_mul, e, Int.one_mul]
  omega
theorem dn_any {a n : Int} (hn : 1 ≤ n) (ha : -1152921504606846976 ≤ a ∧ a ≤ 1152921504606846976) : F133 a n = a / n := by
  unfold F133
  rcases Int.lt_or_le a 0 with h | h
  · obtain ⟨b, rfl⟩ : ∃ b : Int, a = -b := ⟨-a, by omega⟩
    have hb : 0 ≤ b := by omega
    obtain ⟨h1, h2, _⟩ := quo_bd hb hn
    have hd := Int.mul_ediv_add_emod b n
    have hm0 := Int.emod_nonneg b (show n ≠ 0 by omega)
    have hm1 := Int.emod_lt_of_pos b (show 0 < n by omega)
    rw [Int.neg_tdiv, Int.neg_tmod, Int.tdiv_eq_ediv_of_nonneg hb, Int.tmod_eq_emod_of_nonneg hb, W_eq (n := -(b / n)) (by omega) (by omega)]
    by_cases h3 : -(b % n) < (0 : Int)
    · rw [decide_eq_true h3, cond_true, W_eq (by omega) (by omega)]
      refine (((Int.ediv_emod_unique (a := -b) (b := n) (q := -(b / n) - 1) (r := n - b % n) (by omega)).2 ⟨?_, by omega, by omega⟩).1).symm
      rw [Int.mul_sub, Int.mul_neg, Int.mul_one]; omega
    · rw [decide_eq_false h3, cond_false]
      refine (((Int.ediv_emod_unique (a := -b) (b := n) (q := -(b / n)) (r := 0) (by omega)).2 ⟨?_, by omega, by omega⟩).1).symm
      rw [Int.mul_neg]; omega
  · rw [Int.tdiv_eq_ediv_of_nonneg h, Int.tmod_eq_emod_of_nonneg h]
    have := Int.emod_nonneg a (show n ≠ 0 by omega)
    rw [decide_eq_false (by omega), cond_false]
    obtain ⟨h1, h2, _⟩ := quo_bd h hn
    exact W_eq (by omega) (by omega)
theorem up_any {a n : Int} (hn : 1 ≤ n) (ha : 0 ≤ a ∧ a ≤ 1152921504606846976) : F134 a n = cq a n := by
  unfold F134 cq
  have h1 := cq_facts (t := a) hn
  rw [W_eq (n := 0 - a) (by omega) (by omega), dn_any hn (by omega), Int.zero_sub, Int.zero_sub]
  have h2 : 0 ≤ cq a n := by
    rcases Int.lt_or_le (cq a n) 0 with h | h
    · have := Int.mul_le_mul_of_nonneg_right (show cq a n ≤ -1 by omega) (show 0 ≤ n by omega); omega
    · exact h
  have h3 : cq a n ≤ a + 1 := by
    rcases Int.lt_or_le (a + 1) (cq a n) with h | h
    · have := Int.mul_le_mul_of_nonneg_left hn (show 0 ≤ cq a n - 1 by omega); omega
    · exact h
  unfold cq at h2 h3
  exact W_eq (by omega) (by omega)
theorem rim_spec {p : PN} {d : Int} (hp : vp p = 0) (hd : 0 ≤ d ∧ d ≤ 3) :
    ∃ r, IsRt (dt (nrm p) (nrm p)) r ∧ 1 ≤ r ∧ r ≤ 56755 ∧ IsUp (cq (top d) (128 * r)) (F119 p d) ∧ F119 p d ≤ 67108864 := by
  obtain ⟨r, e, hr, r1, r2⟩ := rt_rim hp
  have ht := top_bd d
  obtain ⟨q1, q2, q3⟩ := quo_bd (N := top d) (n := 128 * r) (by omega) (by omega)
  have hqb : top d / (128 * r) ≤ 1768564453277696 := by
    rcases Int.lt_or_le 1768564453277696 (top d / (128 * r)) with h | h
    · have := Int.mul_le_mul_of_nonneg_left (show 128 ≤ 128 * r by omega) q1; omega
    · exact h
  have hk := rtField (n := top d / (128 * r)) q1 (by omega)
  have hkb := hk.le (m := 42054304) (by omega) (by omega)
  obtain ⟨u1, u2⟩ := cq_facts (t := top d) (b := 128 * r) (by omega)
  have hm := Int.mul_ediv_add_emod (top d) (128 * r)
  have hm1 := Int.emod_lt_of_pos (top d) (show 0 < 128 * r by omega)
  refine ⟨r, hr, r1, r2, ?_⟩
  unfold F119
  rw [e, W_eq (n := 128 * r) (by omega) (by omega), top_f hd, Int.tdiv_eq_ediv_of_nonneg (by omega), W_eq (n := top d / (128 * r)) (by omega) (by omega)]
  generalize F148 (top d / (128 * r)) = k at *
  have k0 := hk.1; have k1 := hk.2.1; have k2 := hk.2.2
  have k3 : 0 ≤ k * k := Int.mul_nonneg k0 k0
  have k4 : k * k * (128 * r) ≤ top d / (128 * r) * (128 * r) := Int.mul_le_mul_of_nonneg_right k1 (by omega)
  have k5 : 0 ≤ k * k * (128 * r) := Int.mul_nonneg k3 (by omega)
  rw [W_eq (n := k * k) (by omega) (by omega), W_eq (n := k * k * (128 * r)) (by omega) (by omega), W_eq (n := k + 1) (by omega) (by omega)]
  generalize top d / (128 * r) = q at *
  generalize cq (top d) (128 * r) = T at *
  have hb : 0 < 128 * r := by omega
  generalize 128 * r = b at *
  have hqT : q ≤ T := Int.le_of_mul_le_mul_right (Int.le_trans q3 u1) hb
  have hTq : T ≤ q + 1 := by
    have : (T - 1) * b < (q + 1) * b := by rw [Int.add_mul, Int.mul_comm q b]; omega
    have := Int.lt_of_mul_lt_mul_right this (by omega); omega
  by_cases h : k * k * b < top d
  · rw [decide_eq_true h, cond_true]
    refine ⟨⟨by omega, by omega, Or.inr ?_⟩, by omega⟩
    rw [show k + 1 - 1 = k by omega]
    exact Int.lt_of_mul_lt_mul_right (Int.lt_of_lt_of_le h u1) (by omega)
  · rw [decide_eq_false h, cond_false]
    refine ⟨⟨k0, ?_, ?_⟩, by omega⟩
    · have : (T - 1) * b < k * k * b := by omega
      have := Int.lt_of_mul_lt_mul_right this (by omega); omega
    · rcases Int.lt_or_le 0 k with h0 | h0
      · right
        have : (k - 1) * (k - 1) ≤ (k - 1) * k := Int.mul_le_mul_of_nonneg_left (by omega) (by omega)
        have e : (k - 1) * k = k * k - k := by rw [Int.sub_mul, Int.one_mul]
        omega
      · left; omega
theorem rim_eq {p : PN} {d : Int} (hp : vp p = 0) (hd : 0 ≤ d ∧ d ≤ 3) : F129 p d = F119 p d := by
  obtain ⟨r, hr, r1, r2, hu, hb⟩ := rim_spec hp hd
  obtain ⟨hb', hd'⟩ := vp_ok hp
  obtain ⟨hn, hn2⟩ := nn_bd hb'
  have ht := top_bd d
  have er : F157 (F116 (F77 p) (F77 p)) = r := by
    rw [nrm_r hb', rdt (hn.mono (by omega)) (hn.mono (by omega))]
    exact (rtRef (n := dt (nrm p) (nrm p)) (by omega) (by omega)).eq hr
  obtain ⟨u1, u2⟩ := cq_facts (t := top d) (b := 128 * r) (by omega)
  have hT : cq (top d) (128 * r) ≤ 1768564453277697 := by
    rcases Int.lt_or_le 1768564453277697 (cq (top d) (128 * r)) with h | h
    · have := Int.mul_le_mul_of_nonneg_left (show 128 ≤ 128 * r by omega) (show 0 ≤ cq (top d) (128 * r) - 1 by omega); omega
    · exact h
  refine IsUp.eq ?_ hu
  unfold F129
  refine least_spec (T := cq (top d) (128 * r)) (fun a b ha hab hb => ?_) (fun a => ?_) _ 0 268435456 (by omega) (by omega) (by omega) (by decide) (by omega) (Or.inl rfl)
  · have h2 : decide (a < b) = true := decide_eq_true hab
    have hq := sq_bd (a := (a + b) / 2) (by omega) (by omega)
    simp only [S129_0]
    rw [h2, cond_true, top_r hd, er, W_eq (n := 128 * r) (by omega) (by omega), up_any (by omega) (by omega), mid3_eq (by omega), mid0_eq (by omega), W_eq (n := (a + b) / 2 * ((a + b) / 2)) (by omega) (by omega)]
    by_cases hc : cq (top d) (128 * r) ≤ (a + b) / 2 * ((a + b) / 2)
    · rw [decide_eq_true (show (a + b) / 2 * ((a + b) / 2) ≥ cq (top d) (128 * r) from hc), if_pos hc]; rfl
    · rw [decide_eq_false (show ¬ (a + b) / 2 * ((a + b) / 2) ≥ cq (top d) (128 * r) from hc), if_neg hc]; rfl
  · simp [S129_0]
end Go.Proofs.YthpgabaeefifbaaGreat

namespace Go.Proofs.YthpgabaeefifbaaGreat
open Go.Proofs Go.Aw Go.RowKit
set_option maxRecDepth 100000
set_option linter.unusedVariables false
set_option linter.unusedSimpArgs false

/-! ### Between -/
def fa3 (c q : PN) : Int := mx (mx (mx (mx (mx (mx (mx (mx (mx 0 (ds c.1 q.1)) (ds c.1 q.2.1)) (ds c.1 q.2.2)) (ds c.2.1 q.1)) (ds c.2.1 q.2.1)) (ds c.2.1 q.2.2)) (ds c.2.2 q.1)) (ds c.2.2 q.2.1)) (ds c.2.2 q.2.2)
def ne3 (c q : PN) : Int := nr (blo c) (bhi c) (blo q) (bhi q)
theorem fa3_f {c q : PN} (hc : bdP 5000 c) (hq : bdP 5000 q) : F122_L_L [(F120 c).1, (F120 c).2.1, (F120 c).2.2] [(F120 q).1, (F120 q).2.1, (F120 q).2.2] = fa3 c q := by
  refine (farF3 c q.1 q.2.1 q.2.2).trans ?_
  rw [fF_eq hc.1 hq.1, fF_eq hc.1 hq.2.1, fF_eq hc.1 hq.2.2, fF_eq hc.2.1 hq.1, fF_eq hc.2.1 hq.2.1, fF_eq hc.2.1 hq.2.2, fF_eq hc.2.2 hq.1, fF_eq hc.2.2 hq.2.1, fF_eq hc.2.2 hq.2.2]; rfl
theorem fa3_r {c q : PN} (hc : bdP 5000 c) (hq : bdP 5000 q) : F131_L c [q.1, q.2.1, q.2.2] = fa3 c q := by
  rw [farR3, rF_eq hc.1 hq.1, rF_eq hc.1 hq.2.1, rF_eq hc.1 hq.2.2, rF_eq hc.2.1 hq.1, rF_eq hc.2.1 hq.2.1, rF_eq hc.2.1 hq.2.2, rF_eq hc.2.2 hq.1, rF_eq hc.2.2 hq.2.1, rF_eq hc.2.2 hq.2.2, mx_comm9]; rfl
theorem ne3_f {c q : PN} (hc : bdP 5000 c) (hq : bdP 5000 q) : F123_3_3 (F120 c) (F120 q) = ne3 c q := near33 hc hq
theorem ne3_r {c q : PN} (hc : bdP 5000 c) (hq : bdP 5000 q) : F132_3 c q = ne3 c q := close3 hc hq
theorem fa3_bd {c q : PN} (hc : bdP 5000 c) (hq : bdP 5000 q) : fa3 c q ≤ 300000000 :=
  mx_le (mx_le (mx_le (mx_le (mx_le (mx_le (mx_le (mx_le (mx_le (by omega) (ds_bd hc.1 hq.1).2) (ds_bd hc.1 hq.2.1).2) (ds_bd hc.1 hq.2.2).2) (ds_bd hc.2.1 hq.1).2) (ds_bd hc.2.1 hq.2.1).2) (ds_bd hc.2.1 hq.2.2).2) (ds_bd hc.2.2 hq.1).2) (ds_bd hc.2.2 hq.2.1).2) (ds_bd hc.2.2 hq.2.2).2
theorem fa3_ge (c q : PN) : ds c.1 q.1 ≤ fa3 c q ∧ ds c.2.1 q.1 ≤ fa3 c q ∧ ds c.2.2 q.1 ≤ fa3 c q := by
  refine ⟨?_, ?_, ?_⟩
  · exact Int.le_trans (le_mx2 _ _) (Int.le_trans (le_mx1 _ _) (Int.le_trans (le_mx1 _ _) (Int.le_trans (le_mx1 _ _) (Int.le_trans (le_mx1 _ _) (Int.le_trans (le_mx1 _ _) (Int.le_trans (le_mx1 _ _) (Int.le_trans (le_mx1 _ _) (le_mx1 _ _))))))))
  · exact Int.le_trans (le_mx2 _ _) (Int.le_trans (le_mx1 _ _) (Int.le_trans (le_mx1 _ _) (Int.le_trans (le_mx1 _ _) (Int.le_trans (le_mx1 _ _) (le_mx1 _ _)))))
  · exact Int.le_trans (le_mx2 _ _) (Int.le_trans (le_mx1 _ _) (le_mx1 _ _))
theorem gp_le2 {a b c d x y : Int} (h1 : a ≤ x) (h2 : x ≤ b) (h3 : c ≤ y) (h4 : y ≤ d) : gp a b c d * gp a b c d ≤ (x - y) * (x - y) := by
  refine sq_le (gp_nn _ _ _ _) ?_
  unfold gp mx
  (repeat' split) <;> omega
theorem ne3_le (c q : PN) : 0 ≤ ne3 c q ∧ ne3 c q ≤ fa3 c q := by
  refine ⟨nr_nn _ _ _ _, Int.le_trans ?_ (fa3_ge c q).1⟩
  have h1 := gp_le2 (lo3_le c.1.1 c.2.1.1 c.2.2.1).1 (le_hi3 c.1.1 c.2.1.1 c.2.2.1).1 (lo3_le q.1.1 q.2.1.1 q.2.2.1).1 (le_hi3 q.1.1 q.2.1.1 q.2.2.1).1
  have h2 := gp_le2 (lo3_le c.1.2.1 c.2.1.2.1 c.2.2.2.1).1 (le_hi3 c.1.2.1 c.2.1.2.1 c.2.2.2.1).1 (lo3_le q.1.2.1 q.2.1.2.1 q.2.2.2.1).1 (le_hi3 q.1.2.1 q.2.1.2.1 q.2.2.2.1).1
  have h3 := gp_le2 (lo3_le c.1.2.2 c.2.1.2.2 c.2.2.2.2).1 (le_hi3 c.1.2.2 c.2.1.2.2 c.2.2.2.2).1 (lo3_le q.1.2.2 q.2.1.2.2 q.2.2.2.2).1 (le_hi3 q.1.2.2 q.2.1.2.2 q.2.2.2.2).1
  unfold ne3 nr ds dt sb
  simp only [blo, bhi]
  omega
/-! the normal of a part is the panel's -/
theorem nrm_quad {x y : PN} (h : bdP 100000 x) (hy : y ∈ quad x) : nrm y = nrm x := by
  unfold quad q1 q2 q3 q4 at hy
  rw [mid_f h.1 h.2.1, mid_f h.2.2 h.1, mid_f h.2.1 h.2.2, times_f h.1, times_f h.2.1, times_f h.2.2] at hy
  simp only [List.mem_cons, List.mem_nil_iff, or_false] at hy
  unfold nrm cr sb
  rcases hy with rfl | rfl | rfl | rfl <;> simp only [Prod.mk.injEq] <;> refine ⟨?_, ?_, ?_⟩ <;> grind
theorem nrm_cut : ∀ (d : Nat) {m : Int} {p x : PN}, bdP m p → m * 2 ^ d ≤ 100000 → 0 ≤ m → x ∈ cutL d p → nrm x = nrm p
  | 0, m, p, x, h, _, _, hx => by simp [cutL] at hx; subst hx; rfl
  | d + 1, m, p, x, h, hm, h0, hx => by
    rw [cutL_quad, List.mem_flatMap] at hx
    obtain ⟨y, hy, hx⟩ := hx
    have hp : (0 : Int) < 2 ^ d := Int.pow_pos (by omega)
    have hle : m * 2 ^ d ≤ m * 2 ^ (d + 1) := Int.mul_le_mul_of_nonneg_left (by rw [Int.pow_succ]; omega) h0
    have hb := cutL_bd d h (by omega) h0 hy
    rw [nrm_quad (hb.mono (by omega)) hx, nrm_cut d h (by omega) h0 hy]
theorem nrm_in {p c : PN} {d : Int} (hp : bdP 64 p) (hd : 0 ≤ d ∧ d ≤ 3) (hc : c ∈ cutL d.toNat p) : nrm c = nrm p := by
  have : d.toNat = 0 ∨ d.toNat = 1 ∨ d.toNat = 2 ∨ d.toNat = 3 := by omega
  rcases this with h | h | h | h <;> rw [h] at hc <;> exact nrm_cut (m := 64) _ hp (by decide) (by decide) hc
theorem nn_far (c : PN) (x : P3) {R : Int} (h1 : ds c.1 x ≤ R) (h2 : ds c.2.1 x ≤ R) (h3 : ds c.2.2 x ≤ R) : dt (nrm c) (nrm c) ≤ (4 * R) * (4 * R) := by
  have lag : ∀ u v : P3, dt (cr u v) (cr u v) ≤ dt u u * dt v v := by
    intro u v
    have h := sq_nn (dt u v)
    have e : dt (cr u v) (cr u v) + dt u v * dt u v = dt u u * dt v v := by
      unfold dt cr; grind
    omega
  have par : ∀ a b : P3, dt (sb a b) (sb a b) ≤ 2 * ds a x + 2 * ds b x := by
    intro a b
    have k : ∀ s t y : Int, (s - t) * (s - t) ≤ 2 * ((s - y) * (s - y)) + 2 * ((t - y) * (t - y)) := by
      intro s t y
      have := sq_nn (s + t - 2 * y)
      grind
    have k1 := k a.1 b.1 x.1; have k2 := k a.2.1 b.2.1 x.2.1; have k3 := k a.2.2 b.2.2 x.2.2
    unfold ds dt sb; simp only; omega
  have p1 := par c.2.1 c.1; have p2 := par c.2.2 c.1
  refine Int.le_trans (lag _ _) (Int.mul_le_mul (by omega) (by omega) (dt_self _) ?_)
  have := dt_self (sb c.1 x)
  unfold ds at *; omega
theorem NN_sc (d : Int) : NN (sc d) = sc d * sc d * 1099511627776 := rfl
theorem low_rim {p c : PN} {d : Int} (hp : vp p = 0) (hd : 0 ≤ d ∧ d ≤ 3) (hc : c ∈ cutL d.toNat p) (x : P3) {R : Int} (h1 : ds c.1 x ≤ R) (h2 : ds c.2.1 x ≤ R) (h3 : ds c.2.2 x ≤ R) : (of1 (sc d) R).1 ≤ F119 p d := by
  obtain ⟨r, hr, r1, r2, hu, _⟩ := rim_spec hp hd
  have hR : 0 ≤ R := Int.le_trans (dt_self _) h1
  have hn := nn_far c x h1 h2 h3
  rw [nrm_in (vp_ok hp).1 hd hc] at hn
  have h4 : r ≤ 4 * R := by
    rcases Int.lt_or_le (4 * R) r with h | h
    · have := Int.mul_le_mul (show 4 * R + 1 ≤ r by omega) (show 4 * R + 1 ≤ r by omega) (by omega) hr.1
      have e : (4 * R + 1) * (4 * R + 1) = (4 * R) * (4 * R) + 8 * R + 1 := by grind
      have := hr.2.1; omega
    · exact h
  unfold of1
  rw [if_neg (by omega)]
  obtain ⟨k, hk, _, k0, k1, k2, k3, k4, k5⟩ := inv_facts (NN_bd (sc_in d)) (show 1 ≤ R by omega)
  unfold inv
  rw [hk]
  simp only
  rcases Int.lt_or_le (F119 p d) k with h | h
  · exfalso
    obtain ⟨u1, _⟩ := cq_facts (t := top d) (b := 128 * r) (by omega)
    have v0 := hu.1; have v1 := hu.2.1
    generalize F119 p d = m at *
    have e1 : cq (top d) (128 * r) * (128 * r) ≤ m * m * (128 * r) := Int.mul_le_mul_of_nonneg_right v1 (by omega)
    have e2 : m * m ≤ k * k := Int.mul_le_mul (by omega) (by omega) v0 k0
    have e3 : m * m * (128 * r) ≤ k * k * (512 * R) := Int.mul_le_mul e2 (by omega) (by omega) k2
    have e4 : k * k * (512 * R) = 512 * (k * k * R) := by grind
    rw [NN_sc] at k5
    have := cnt_in d
    unfold top at *
    omega
  · exact h
/-! sums of bounds -/
def accS (lo hi : PN → Int) : List PN → Int × Int → Int × Int
  | [], v => v
  | c :: l, v => accS lo hi l (v.1 + lo c, v.2 + hi c)
theorem okv_add {lo hi : Int} {v : Int × Int} {n : Nat} (h : okv v (n + 1)) (h1 : 0 ≤ lo ∧ lo ≤ hi ∧ hi ≤ 536870913) : okv (v.1 + lo, v.2 + hi) n := by
  unfold okv at *; simp only; omega
theorem accS_ok {lo hi : PN → Int} : ∀ {l : List PN} {v : Int × Int}, (∀ c ∈ l, 0 ≤ lo c ∧ lo c ≤ hi c ∧ hi c ≤ 536870913) → okv v l.length → okv (accS lo hi l v) 0
  | [], v, _, h => h
  | c :: l, v, hl, h => accS_ok (l := l) (fun c hc => hl c (List.mem_cons_of_mem _ hc)) (okv_add h (hl c List.mem_cons_self))
theorem accS_foldl {lo hi : PN → Int} {S : Int × Int → PN → Int × Int} : ∀ {l : List PN} {v : Int × Int}, (∀ c ∈ l, 0 ≤ lo c ∧ lo c ≤ hi c ∧ hi c ≤ 536870913) →
    (∀ c ∈ l, ∀ v : Int × Int, S v c = (W (v.1 + lo c), W (v.2 + hi c))) → okv v l.length → l.foldl S v = accS lo hi l v
  | [], v, _, _, _ => rfl
  | c :: l, v, hl, hS, h => by
    have h1 := okv_add h (hl c List.mem_cons_self)
    have h2 := h1
    unfold okv at h2; simp only at h2
    rw [List.foldl_cons, hS c List.mem_cons_self v, W_eq (by omega) (by omega), W_eq (by omega) (by omega)]
    exact accS_foldl (l := l) (fun c hc => hl c (List.mem_cons_of_mem _ hc)) (fun c hc => hS c (List.mem_cons_of_mem _ hc)) h1
theorem accS_loopF {lo hi : PN → Int} {S : Int × Int × Int → (Int × Int × Int) ⊕ (Int × Int)} {G : Int × Int → Int × Int} {L : List PN} (hl : ∀ c ∈ L, 0 ≤ lo c ∧ lo c ≤ hi c ∧ hi c ≤ 536870913)
    (hS : ∀ (i : Nat) (c : PN), L[i]? = some c → ∀ v1 v2 : Int, S (v1, v2, (i : Int)) = .inl (W (v1 + lo c), W (v2 + hi c), ((i + 1 : Nat) : Int)))
    (hE : ∀ v1 v2 : Int, S (v1, v2, (L.length : Int)) = .inr (G (v1, v2))) :
    ∀ (l : List PN) (i n : Nat) (v : Int × Int), L.drop i = l → i ≤ L.length → l.length < n → okv v l.length → loopF S n (v.1, v.2, (i : Int)) = G (accS lo hi l v)
  | [], i, n, v, hd, hi', hn, h => by
    have : i = L.length := by have := List.drop_eq_nil_iff.1 hd; omega
    obtain ⟨n, rfl⟩ : ∃ m, n = m + 1 := ⟨n - 1, by simp only [List.length_nil] at hn; omega⟩
    subst this
    rw [loopF_inr (hE _ _)]; rfl
  | c :: l, i, n, v, hd, hi', hn, h => by
    have hc : L[i]? = some c := by
      have : (L.drop i)[0]? = some c := by rw [hd]; rfl
      simpa using this
    obtain ⟨hlt, hce⟩ := List.getElem?_eq_some_iff.1 hc
    obtain ⟨n, rfl⟩ : ∃ m, n = m + 1 := ⟨n - 1, by omega⟩
    have h1 := okv_add h (hl c (hce ▸ List.getElem_mem hlt))
    have h2 := h1
    unfold okv at h2; simp only at h2
    rw [loopF_inl (hS i c hc v.1 v.2), W_eq (by omega) (by omega), W_eq (by omega) (by omega)]
    exact accS_loopF hl hS hE l (i + 1) n _ (by rw [← List.drop_drop, hd]; rfl) (by omega) (by simp only [List.length_cons] at hn; omega) h1
noncomputable def bLo (d : Int) (q c : PN) : Int := (of1 (sc d) (fa3 c q)).1
noncomputable def bHi (R d : Int) (q c : PN) : Int := if 0 < ne3 c q then (if (of1 (sc d) (ne3 c q)).2 < R then (of1 (sc d) (ne3 c q)).2 else R) else R
theorem b_ok {p q : PN} {d : Int} (hp : vp p = 0) (hd : 0 ≤ d ∧ d ≤ 3) : ∀ c ∈ cutL d.toNat p, 0 ≤ bLo d q c ∧ bLo d q c ≤ bHi (F119 p d) d q c ∧ bHi (F119 p d) d q c ≤ 536870913 := by
  intro c hc
  obtain ⟨_, _, _, _, _, hub⟩ := rim_spec hp hd
  have ho := of1_ok (sc_in d)
  obtain ⟨g1, g2, g3⟩ := fa3_ge c q
  have hl := low_rim hp hd hc q.1 g1 g2 g3
  have hn := ne3_le c q
  have h0 := ho.lo (fa3 c q)
  unfold bLo bHi
  split
  · rename_i hz
    have h1 := ho.mono (ne3 c q) (fa3 c q) (by omega) hn.2; have h2 := ho.le (ne3 c q)
    split <;> omega
  · omega
noncomputable def betS (p q : PN) (d : Int) : Int × Int := avg (accS (bLo d q) (bHi (F119 p d) d q) (cutL d.toNat p) (0, 0)) (sc d * sc d)
section
variable {p q : PN} {d : Int}
theorem bet_f (hp : vp p = 0) (hq : bdP 5000 q) (hd : 0 ≤ d ∧ d ≤ 3) : F88 p q d = betS p q d := by
  have hk := okv_0 (p := p) hd
  have hb := b_ok (q := q) hp hd
  unfold F88 betS
  rw [accS_foldl hb (fun c hc v => ?_) hk]
  · show F124 _ _ _ = _
    rw [cnt_f hd, avg_f (cnt_in d) (accS_ok hb hk)]
  · have hcb := (cutL_in (vp_ok hp).1 hd hc).mono (show (512 : Int) ≤ 5000 by omega)
    obtain ⟨v1, v2⟩ := v
    have h1 := fa3_bd hcb hq; have h2 := ne3_le c q
    simp only [S88_r]
    rw [sc_f hd, ne3_f hcb hq, fa3_f hcb hq, one_f (sc_in d) (by omega), one_f (sc_in d) (by omega)]
    unfold bLo bHi
    by_cases h : 0 < ne3 c q
    · rw [if_pos h, decide_eq_true (show ne3 c q > 0 from h), cond_true]
    · rw [if_neg h, decide_eq_false (show ¬ ne3 c q > 0 from h), cond_false]
theorem bet_r (hp : vp p = 0) (hq : bdP 5000 q) (hd : 0 ≤ d ∧ d ≤ 3) : F93 p d q = betS p q d := by
  have hk := okv_0 (p := p) hd
  have hb := b_ok (q := q) hp hd
  have hL := cutR (vp_ok hp).1 hd
  have hl := cnt_len hd p
  unfold F93 betS
  rw [show ((0, 0, 0) : Int × Int × Int) = (((0, 0) : Int × Int).1, ((0, 0) : Int × Int).2, ((0 : Nat) : Int)) from rfl,
    accS_loopF hb (S := S93_0 p d q) (G := fun v => (F133 v.1 (sc d * sc d), F134 v.2 (sc d * sc d))) (fun i c hi v1 v2 => ?_) (fun v1 v2 => ?_) (cutL d.toNat p) 0 _ (0, 0) rfl (Nat.zero_le _) (by rw [hL]; omega) hk]
  · have hu := accS_ok hb hk
    unfold okv at hu
    rw [dn_r (cnt_in d) (by omega), up_r (cnt_in d) (by omega)]; rfl
  · obtain ⟨hlt, hc⟩ := List.getElem?_eq_some_iff.1 hi
    have hm : c ∈ cutL d.toNat p := hc ▸ List.getElem_mem hlt
    have hcb := (cutL_in (vp_ok hp).1 hd hm).mono (show (512 : Int) ≤ 5000 by omega)
    have hg : (cutL d.toNat p).getD i default = c := by rw [List.getD_eq_getElem?_getD, hi]; rfl
    have h1 := fa3_bd hcb hq; have h2 := ne3_le c q
    simp only [S93_0]
    rw [hL, decide_eq_true (show ((i : Nat) : Int) < ((cutL d.toNat p).length : Nat) by omega), cond_true, Int.toNat_natCast, hg, sc_r hd, ne3_r hcb hq, fa3_r hcb hq, one_r (sc_in d) (by omega), one_r (sc_in d) (by omega), rim_eq hp hd]
    unfold bLo bHi
    by_cases h : 0 < ne3 c q
    · rw [if_pos h, decide_eq_true (show ne3 c q > 0 from h), cond_true]; rfl
    · rw [if_neg h, decide_eq_false (show ¬ ne3 c q > 0 from h), cond_false]; rfl
  · simp only [S93_0]
    rw [hL, decide_eq_false (Int.lt_irrefl _), cond_false, hl]
end
def tmP (s : Int) (q : PN) : PN := (tm s q.1, tm s q.2.1, tm s q.2.2)
theorem tmP_bd {q : PN} {s : Int} (hs : 1 ≤ s ∧ s ≤ 8) (hq : bdP 64 q) : bdP 5000 (tmP s q) :=
  ⟨(bd_tm hs (by omega) hq.1).mono (by omega), (bd_tm hs (by omega) hq.2.1).mono (by omega), (bd_tm hs (by omega) hq.2.2).mono (by omega)⟩
theorem Between_eq (p q : PN) (d : Int) : F42 p q d = F46 p q d := by
  unfold F42 F46
  rw [pair_eq, paired_eq]
  by_cases h : pk p q d = 0
  · obtain ⟨h1, h2, h3⟩ := pk_ok h
    have hs := sc_bd d
    have hq := (vp_ok h2).1
    have hq' := hq.mono (show (64 : Int) ≤ 4096 by omega)
    have hd : 0 ≤ d ∧ d ≤ 3 := by omega
    rw [sc_f hd, sc_r hd, tm_f hs hq'.1, tm_f hs hq'.2.1, tm_f hs hq'.2.2, tm_r hs hq'.1, tm_r hs hq'.2.1, tm_r hs hq'.2.2]
    have e1 := bet_f h1 (tmP_bd hs hq) hd
    have e2 := bet_r h1 (tmP_bd hs hq) hd
    unfold tmP at e1 e2
    rw [e1, e2]
  · rw [bne_iff_ne.2 h, cond_true, cond_true]

end Go.Proofs.YthpgabaeefifbaaGreat

namespace Go.Proofs.YthpgabaeefifbaaGreat
open Go.Proofs Go.Aw Go.RowKit
set_option maxRecDepth 100000
set_option linter.unusedVariables false
set_option linter.unusedSimpArgs false

theorem v1_ok {a : Int × Int} (h : ((F154_1 a : Int) != 0) = false) : -1099511627776 ≤ a.1 ∧ a.1 ≤ a.2 ∧ a.2 ≤ 1099511627776 := by
  have h : F154_1 a = 0 := by simpa using h
  unfold F154_1 at h
  cases h0 : F113 a with
  | false => rw [h0] at h; cases h
  | true =>
    unfold F113 at h0
    by_cases h1 : a.1 ≥ -1099511627776
    · by_cases h2 : a.1 ≤ a.2
      · rw [decide_eq_true h1, cond_true, decide_eq_true h2, cond_true] at h0
        exact ⟨h1, h2, of_decide_eq_true h0⟩
      · rw [decide_eq_true h1, cond_true, decide_eq_false h2, cond_false] at h0; cases h0
    · rw [decide_eq_false h1, cond_false] at h0; cases h0

def F155 (a0 : Int) : Bool :=
  (bif (decide ((a0 : Int) ≥ (-1099511627776))) then
   (decide ((a0 : Int) ≤ 1099511627776))
  else
   false)

theorem C155 (a0 : Int) : Con Tryz.prog 155 [(iv a0)] [] (.v (.bool (F155 a0))) [] := by
  refine con_s Tryz.func155 (by kernel_rfl) fun cx hcx => ?_
  cases h0 : (decide ((a0 : Int) ≥ (-1099511627776))) with
  | true =>
   have q0 := of_decide_eq_true h0
   have e := Eq.refl (F155 a0); conv at e => rhs; simp only [F155, h0, cond_true, cond_false]
   rw [e]
   exact rt [.d h0] [] [] hcx (by kernel_rfl)
  | false =>
   have q0 := of_decide_eq_false h0
   have e := Eq.refl (F155 a0); conv at e => rhs; simp only [F155, h0, cond_true, cond_false]
   rw [e]
   exact rt [.d h0] [] [] hcx (by kernel_rfl)

def F125 (a0 : Int × Int) (a1 : Int) : (Int × Int) × Int :=
  (bif (((F154_1 a0) : Int) != 0) then
   ((0, 0), (F154_1 a0))
  else
   (bif (!(F155 a1)) then
    ((0, 0), 1)
   else
    ((F74 (if ((F156 a0.2 a1) : Int) < (F156 a0.1 a1) then (F156 a0.2 a1) else (F156 a0.1 a1)) (if ((F156 a0.1 a1) : Int) < (F156 a0.2 a1) then (F156 a0.2 a1) else (F156 a0.1 a1))).1, (F74 (if ((F156 a0.2 a1) : Int) < (F156 a0.1 a1) then (F156 a0.2 a1) else (F156 a0.1 a1)) (if ((F156 a0.1 a1) : Int) < (F156 a0.2 a1) then (F156 a0.2 a1) else (F156 a0.1 a1))).2)))

theorem C125 (a0 : Int × Int) (a1 : Int) : Con Tryz.prog 125 [(.a [(iv a0.1), (iv a0.2)]), (iv a1)] [] (.t [(.a (k2 (F125 a0 a1).1)), (iv (F125 a0 a1).2)]) [] := by
  refine con_s Tryz.func125 (by kernel_rfl) fun cx hcx => ?_
  let t0 : List (St Tryz.prog) := [.c [2] (C154_1 a0)]
  cases h0 : (((F154_1 a0) : Int) != 0) with
  | true =>
   have q0 := bne_iff_ne.1 h0
   have e := Eq.refl (F125 a0 a1); conv at e => rhs; simp only [F125, h0, cond_true, cond_false]
   rw [e]
   exact rt (t0 ++ [.d h0]) [] [] hcx (by kernel_rfl)
  | false =>
   have q0 := bne_eq_false_iff_eq.1 h0
   let t1 : List (St Tryz.prog) := (t0 ++ [.d h0, .c [] (C155 a1)])
   cases h1 : (!(F155 a1)) with
   | true =>
    have e := Eq.refl (F125 a0 a1); conv at e => rhs; simp only [F125, h0, h1, cond_true, cond_false]
    rw [e]
    exact rt (t1 ++ [.d h1]) [] [] hcx (by kernel_rfl)
   | false =>
    have e := Eq.refl (F125 a0 a1); conv at e => rhs; simp only [F125, h0, h1, cond_true, cond_false]
    rw [e]
    exact rt (t1 ++ [.d h1, .c [] (C156 a0.1 a1  (by have := v1_ok h0; omega)), .c [] (C156 a0.2 a1  (by have := v1_ok h0; omega)), .c [] (C74 (if ((F156 a0.2 a1) : Int) < (F156 a0.1 a1) then (F156 a0.2 a1) else (F156 a0.1 a1)) (if ((F156 a0.1 a1) : Int) < (F156 a0.2 a1) then (F156 a0.2 a1) else (F156 a0.1 a1)))]) [] [] hcx (by kernel_rfl)

def F135 (a0 : Int) : Int :=
  (bif (decide ((a0 : Int) < 0)) then
   (IntKind.wrap .u64 (W (0 - a0)))
  else
   (IntKind.wrap .u64 a0))

theorem C135 (a0 : Int) : Con Tryz.prog 135 [(iv a0)] [] (.v (.int .u64 (F135 a0))) [] := by
  refine con_s Tryz.func135 (by kernel_rfl) fun cx hcx => ?_
  cases h0 : (decide ((a0 : Int) < 0)) with
  | true =>
   have q0 := of_decide_eq_true h0
   have e := Eq.refl (F135 a0); conv at e => rhs; simp only [F135, h0, cond_true, cond_false]
   rw [e]
   exact rt [.d h0] [] [] hcx (by kernel_rfl)
  | false =>
   have q0 := of_decide_eq_false h0
   have e := Eq.refl (F135 a0); conv at e => rhs; simp only [F135, h0, cond_true, cond_false]
   rw [e]
   exact rt [.d h0] [] [] hcx (by kernel_rfl)

def F83 (a0 : Int) (a1 : Int) : Int × Int :=
  ((IntKind.wrap .u64 ((IntKind.wrap .u64 ((IntKind.wrap .u64 ((Int.fdiv a0 (2 ^ (min (Int.toNat 32) 64))) * (Int.fdiv a1 (2 ^ (min (Int.toNat 32) 64))))) + (Int.fdiv (IntKind.wrap .u64 ((IntKind.wrap .u64 ((Int.fdiv a0 (2 ^ (min (Int.toNat 32) 64))) * (IntKind.wrap .u64 ((BitVec.ofInt 64 a1 &&& BitVec.ofInt 64 4294967295).toNat : Int)))) + (Int.fdiv (IntKind.wrap .u64 ((IntKind.wrap .u64 ((BitVec.ofInt 64 a0 &&& BitVec.ofInt 64 4294967295).toNat : Int)) * (IntKind.wrap .u64 ((BitVec.ofInt 64 a1 &&& BitVec.ofInt 64 4294967295).toNat : Int)))) (2 ^ (min (Int.toNat 32) 64))))) (2 ^ (min (Int.toNat 32) 64))))) + (Int.fdiv (IntKind.wrap .u64 ((IntKind.wrap .u64 ((BitVec.ofInt 64 (IntKind.wrap .u64 ((IntKind.wrap .u64 ((Int.fdiv a0 (2 ^ (min (Int.toNat 32) 64))) * (IntKind.wrap .u64 ((BitVec.ofInt 64 a1 &&& BitVec.ofInt 64 4294967295).toNat : Int)))) + (Int.fdiv (IntKind.wrap .u64 ((IntKind.wrap .u64 ((BitVec.ofInt 64 a0 &&& BitVec.ofInt 64 4294967295).toNat : Int)) * (IntKind.wrap .u64 ((BitVec.ofInt 64 a1 &&& BitVec.ofInt 64 4294967295).toNat : Int)))) (2 ^ (min (Int.toNat 32) 64))))) &&& BitVec.ofInt 64 4294967295).toNat : Int)) + (IntKind.wrap .u64 ((IntKind.wrap .u64 ((BitVec.ofInt 64 a0 &&& BitVec.ofInt 64 4294967295).toNat : Int)) * (Int.fdiv a1 (2 ^ (min (Int.toNat 32) 64))))))) (2 ^ (min (Int.toNat 32) 64))))), (IntKind.wrap .u64 (a0 * a1)))

theorem C83 (a0 : Int) (a1 : Int) : Con Tryz.prog 83 [(.v (.int .u64 a0)), (.v (.int .u64 a1))] [] (.t [(.v (.int .u64 (F83 a0 a1).1)), (.v (.int .u64 (F83 a0 a1).2))]) [] := by
  refine con_s Tryz.func83 (by kernel_rfl) fun cx hcx => ?_
  have e := Eq.refl (F83 a0 a1); conv at e => rhs; simp only [F83]
  rw [e]
  exact rt [.p (show 0 ≤ (32 : Int) from by decide), .p (show 0 ≤ (32 : Int) from by decide), .p (show 0 ≤ (32 : Int) from by decide), .p (show 0 ≤ (32 : Int) from by decide), .p (show 0 ≤ (32 : Int) from by decide)] [] [] hcx (by kernel_rfl)

def F96 (a0 : Int) (a1 : Int) : Int :=
  (bif (((F83 (F135 a0) (F135 a1)).1 : Int) == 0) then
   (bif (decide (((F83 (F135 a0) (F135 a1)).2 : Int) ≤ 1099511627776)) then
    (bif (!((decide ((a0 : Int) < 0)) == (decide ((a1 : Int) < 0)))) then
     (W (0 - (W (F83 (F135 a0) (F135 a1)).2)))
    else
     (W (F83 (F135 a0) (F135 a1)).2))
   else
    (bif (!((decide ((a0 : Int) < 0)) == (decide ((a1 : Int) < 0)))) then
     (-1099511627777)
    else
     1099511627777))
  else
   (bif (!((decide ((a0 : Int) < 0)) == (decide ((a1 : Int) < 0)))) then
    (-1099511627777)
   else
    1099511627777))

theorem C96 (a0 : Int) (a1 : Int) : Con Tryz.prog 96 [(iv a0), (iv a1)] [] (iv (F96 a0 a1)) [] := by
  refine con_s Tryz.func96 (by kernel_rfl) fun cx hcx => ?_
  let t0 : List (St Tryz.prog) := [.c [] (C135 a0), .c [] (C135 a1), .c [] (C83 (F135 a0) (F135 a1))]
  cases h0 : (((F83 (F135 a0) (F135 a1)).1 : Int) == 0) with
  | true =>
   have q0 := eq_of_beq h0
   let t1 : List (St Tryz.prog) := (t0 ++ [.d h0])
   cases h1 : (decide (((F83 (F135 a0) (F135 a1)).2 : Int) ≤ 1099511627776)) with
   | true =>
    have q1 := of_decide_eq_true h1
    let t2 : List (St Tryz.prog) := (t1 ++ [.d h1])
    cases h2 : (!((decide ((a0 : Int) < 0)) == (decide ((a1 : Int) < 0)))) with
    | true =>
     have e := Eq.refl (F96 a0 a1); conv at e => rhs; simp only [F96, h0, h1, h2, cond_true, cond_false]
     rw [e]
     exact rt (t2 ++ [.d h2]) [] [] hcx (by kernel_rfl)
    | false =>
     have e := Eq.refl (F96 a0 a1); conv at e => rhs; simp only [F96, h0, h1, h2, cond_true, cond_false]
     rw [e]
     exact rt (t2 ++ [.d h2]) [] [] hcx (by kernel_rfl)
   | false =>
    have q1 := of_decide_eq_false h1
    let t2 : List (St Tryz.prog) := (t1 ++ [.d h1])
    cases h2 : (!((decide ((a0 : Int) < 0)) == (decide ((a1 : Int) < 0)))) with
    | true =>
     have e := Eq.refl (F96 a0 a1); conv at e => rhs; simp only [F96, h0, h1, h2, cond_true, cond_false]
     rw [e]
     exact rt (t2 ++ [.d h2]) [] [] hcx (by kernel_rfl)
    | false =>
     have e := Eq.refl (F96 a0 a1); conv at e => rhs; simp only [F96, h0, h1, h2, cond_true, cond_false]
     rw [e]
     exact rt (t2 ++ [.d h2]) [] [] hcx (by kernel_rfl)
  | false =>
   have q0 := ne_of_beq_false h0
   let t1 : List (St Tryz.prog) := (t0 ++ [.d h0])
   cases h1 : (!((decide ((a0 : Int) < 0)) == (decide ((a1 : Int) < 0)))) with
   | true =>
    have e := Eq.refl (F96 a0 a1); conv at e => rhs; simp only [F96, h0, h1, cond_true, cond_false]
    rw [e]
    exact rt (t1 ++ [.d h1]) [] [] hcx (by kernel_rfl)
   | false =>
    have e := Eq.refl (F96 a0 a1); conv at e => rhs; simp only [F96, h0, h1, cond_true, cond_false]
    rw [e]
    exact rt (t1 ++ [.d h1]) [] [] hcx (by kernel_rfl)

def F47 (a0 : Int × Int) (a1 : Int) : (Int × Int) × Int :=
  (bif (!(F95 a0)) then
   ((0, 0), 1)
  else
   (bif (!(F82 a1 (-1099511627776) 1099511627776)) then
    ((0, 0), 1)
   else
    (bif (decide ((a1 : Int) < 0)) then
     ((F84 (F96 a0.2 a1) (F96 a0.1 a1)).1, (F84 (F96 a0.2 a1) (F96 a0.1 a1)).2)
    else
     ((F84 (F96 a0.1 a1) (F96 a0.2 a1)).1, (F84 (F96 a0.1 a1) (F96 a0.2 a1)).2))))

theorem C47 (a0 : Int × Int) (a1 : Int) : Con Tryz.prog 47 [(.a [(iv a0.1), (iv a0.2)]), (iv a1)] [] (.t [(.a (k2 (F47 a0 a1).1)), (iv (F47 a0 a1).2)]) [] := by
  refine con_s Tryz.func47 (by kernel_rfl) fun cx hcx => ?_
  let t0 : List (St Tryz.prog) := [.c [] (C95 a0)]
  cases h0 : (!(F95 a0)) with
  | true =>
   have e := Eq.refl (F47 a0 a1); conv at e => rhs; simp only [F47, h0, cond_true, cond_false]
   rw [e]
   exact rt (t0 ++ [.d h0]) [] [] hcx (by kernel_rfl)
  | false =>
   let t1 : List (St Tryz.prog) := (t0 ++ [.d h0, .c [] (C82 a1 (-1099511627776) 1099511627776)])
   cases h1 : (!(F82 a1 (-1099511627776) 1099511627776)) with
   | true =>
    have e := Eq.refl (F47 a0 a1); conv at e => rhs; simp only [F47, h0, h1, cond_true, cond_false]
    rw [e]
    exact rt (t1 ++ [.d h1]) [] [] hcx (by kernel_rfl)
   | false =>
    let t2 : List (St Tryz.prog) := (t1 ++ [.d h1])
    cases h2 : (decide ((a1 : Int) < 0)) with
    | true =>
     have q2 := of_decide_eq_true h2
     have e := Eq.refl (F47 a0 a1); conv at e => rhs; simp only [F47, h0, h1, h2, cond_true, cond_false]
     rw [e]
     exact rt (t2 ++ [.d h2, .c [] (C96 a0.2 a1), .c [] (C96 a0.1 a1), .c [] (C84 (F96 a0.2 a1) (F96 a0.1 a1))]) [] [] hcx (by kernel_rfl)
    | false =>
     have q2 := of_decide_eq_false h2
     have e := Eq.refl (F47 a0 a1); conv at e => rhs; simp only [F47, h0, h1, h2, cond_true, cond_false]
     rw [e]
     exact rt (t2 ++ [.d h2, .c [] (C96 a0.1 a1), .c [] (C96 a0.2 a1), .c [] (C84 (F96 a0.1 a1) (F96 a0.2 a1))]) [] [] hcx (by kernel_rfl)

end Go.Proofs.YthpgabaeefifbaaGreat

namespace Go.Proofs.YthpgabaeefifbaaGreat
open Go.Proofs Go.Aw Go.RowKit
set_option maxRecDepth 100000
set_option linter.unusedVariables false
set_option linter.unusedSimpArgs false

/-! ### Products that may be too large -/
theorem U_def (n : Int) : IntKind.wrap .u64 n = n % 18446744073709551616 := by
  simp [IntKind.wrap, IntKind.bits, IntKind.signed]
theorem fdiv32 (a : Int) : Int.fdiv a (2 ^ (min (Int.toNat 32) 64)) = a / 4294967296 := by
  rw [show (2 : Int) ^ (min (Int.toNat 32) 64) = 4294967296 from by kernel_rfl]
  exact Int.fdiv_eq_ediv_of_nonneg _ (by omega)
theorem and32 (a : Int) : ((BitVec.ofInt 64 a &&& BitVec.ofInt 64 4294967295).toNat : Int) = a % 4294967296 := by
  rw [BitVec.toNat_and, show (BitVec.ofInt 64 4294967295).toNat = 2 ^ 32 - 1 from by kernel_rfl, Nat.and_two_pow_sub_one_eq_mod, BitVec.toNat_ofInt]
  have h0 := Int.emod_nonneg a (show (18446744073709551616 : Int) ≠ 0 by omega)
  rw [show ((2 ^ 64 : Nat) : Int) = 18446744073709551616 from by kernel_rfl]
  have h1 : (((a % 18446744073709551616).toNat : Nat) : Int) = a % 18446744073709551616 := Int.toNat_of_nonneg h0
  rw [Int.natCast_emod, h1]
  show a % 18446744073709551616 % 4294967296 = _
  omega
theorem mul64 {x y : Int} (hx : 0 ≤ x ∧ x ≤ 1099511627776) (hy : 0 ≤ y ∧ y ≤ 1099511627776) : F83 x y = (x * y / 18446744073709551616, x * y % 18446744073709551616) := by
  unfold F83
  simp only [U_def, fdiv32, and32]
  have e0 : ∀ n : Int, n % 4294967296 % 18446744073709551616 = n % 4294967296 := fun n => by omega
  simp only [e0]
  have key : x * y = (x / 4294967296 * (y / 4294967296)) * 18446744073709551616 + (x / 4294967296 * (y % 4294967296) + x % 4294967296 * (y / 4294967296)) * 4294967296 + x % 4294967296 * (y % 4294967296) := by
    have h1 := Int.mul_ediv_add_emod x 4294967296
    have h2 := Int.mul_ediv_add_emod y 4294967296
    generalize x / 4294967296 = x1 at *
    generalize x % 4294967296 = x0 at *
    generalize y / 4294967296 = y1 at *
    generalize y % 4294967296 = y0 at *
    subst h1; subst h2; grind
  have b1 := mul_bd (a := 256) (b := 256) (x := x / 4294967296) (y := y / 4294967296) (by omega) (by omega)
  have b2 := mul_bd (a := 256) (b := 4294967295) (x := x / 4294967296) (y := y % 4294967296) (by omega) (by omega)
  have b3 := mul_bd (a := 4294967295) (b := 256) (x := x % 4294967296) (y := y / 4294967296) (by omega) (by omega)
  have b4 := mul_bd (a := 4294967295) (b := 4294967295) (x := x % 4294967296) (y := y % 4294967296) (by omega) (by omega)
  have n1 : 0 ≤ x / 4294967296 * (y / 4294967296) := Int.mul_nonneg (by omega) (by omega)
  have n2 : 0 ≤ x / 4294967296 * (y % 4294967296) := Int.mul_nonneg (by omega) (by omega)
  have n3 : 0 ≤ x % 4294967296 * (y / 4294967296) := Int.mul_nonneg (by omega) (by omega)
  have n4 : 0 ≤ x % 4294967296 * (y % 4294967296) := Int.mul_nonneg (by omega) (by omega)
  generalize x * y = m at *
  generalize x / 4294967296 * (y / 4294967296) = d at *
  generalize x / 4294967296 * (y % 4294967296) = b at *
  generalize x % 4294967296 * (y / 4294967296) = c at *
  generalize x % 4294967296 * (y % 4294967296) = a at *
  rw [Prod.mk.injEq]
  exact ⟨by omega, rfl⟩
def sat (x n : Int) : Int := if 1099511627776 < x * n then 1099511627777 else if x * n < -1099511627776 then -1099511627777 else x * n
theorem ab_mul (x n : Int) : (x * n = (if x < 0 then 0 - x else x) * (if n < 0 then 0 - n else n) ∧ ((x < 0) = (n < 0))) ∨ (x * n = -((if x < 0 then 0 - x else x) * (if n < 0 then 0 - n else n)) ∧ ¬ ((x < 0) = (n < 0))) := by
  by_cases h1 : x < 0
  · by_cases h2 : n < 0
    · left; rw [if_pos h1, if_pos h2]; exact ⟨by grind, by simp [h1, h2]⟩
    · right; rw [if_pos h1, if_neg h2]; exact ⟨by grind, by simp [h1, h2]⟩
  · by_cases h2 : n < 0
    · right; rw [if_neg h1, if_pos h2]; exact ⟨by grind, by simp [h1, h2]⟩
    · left; rw [if_neg h1, if_neg h2]; exact ⟨by grind, by simp [h1, h2]⟩
theorem prod_r {x n : Int} (hx : -1099511627776 ≤ x ∧ x ≤ 1099511627776) (hn : -1099511627776 ≤ n ∧ n ≤ 1099511627776) : F96 x n = sat x n := by
  have hsz : ∀ z : Int, -1099511627776 ≤ z ∧ z ≤ 1099511627776 → F135 z = if z < 0 then 0 - z else z := by
    intro z hz
    unfold F135
    by_cases h : z < 0
    · rw [decide_eq_true h, cond_true, if_pos h, W_eq (by omega) (by omega), U_def]; omega
    · rw [decide_eq_false h, cond_false, if_neg h, U_def]; omega
  unfold F96 sat
  rw [hsz x hx, hsz n hn, mul64 (by split <;> omega) (by split <;> omega)]
  have hm := ab_mul x n
  have hnn : 0 ≤ (if x < 0 then 0 - x else x) * (if n < 0 then 0 - n else n) := Int.mul_nonneg (by split <;> omega) (by split <;> omega)
  generalize (if x < 0 then 0 - x else x) * (if n < 0 then 0 - n else n) = m at *
  have e : (!(decide (x < 0) == decide (n < 0))) = decide (x * n = -m ∧ ¬ ((x < 0) = (n < 0))) := by
    by_cases h1 : x < 0 <;> by_cases h2 : n < 0 <;> simp [h1, h2] at hm ⊢ <;> omega
  rw [e]
  simp only
  by_cases h1 : m / 18446744073709551616 = 0
  · rw [beq_iff_eq.2 h1, cond_true]
    have h2 : m % 18446744073709551616 = m := by omega
    rw [h2]
    by_cases h3 : m ≤ 1099511627776
    · rw [decide_eq_true h3, cond_true, W_eq (n := m) (by omega) (by omega), W_eq (n := 0 - m) (by omega) (by omega)]
      rcases hm with ⟨q1, q2⟩ | ⟨q1, q2⟩
      · rw [decide_eq_false (fun h => h.2 q2), cond_false, q1, if_neg (by omega), if_neg (by omega)]
      · rw [decide_eq_true ⟨q1, q2⟩, cond_true, q1, if_neg (by omega), if_neg (by omega)]; omega
    · rw [decide_eq_false h3, cond_false]
      rcases hm with ⟨q1, q2⟩ | ⟨q1, q2⟩
      · rw [decide_eq_false (fun h => h.2 q2), cond_false, q1, if_pos (by omega)]
      · rw [decide_eq_true ⟨q1, q2⟩, cond_true, q1, if_neg (by omega), if_pos (by omega)]
  · rw [beq_eq_false_iff_ne.2 h1, cond_false]
    rcases hm with ⟨q1, q2⟩ | ⟨q1, q2⟩
    · rw [decide_eq_false (fun h => h.2 q2), cond_false, q1, if_pos (by omega)]
    · rw [decide_eq_true ⟨q1, q2⟩, cond_true, q1, if_neg (by omega), if_pos (by omega)]

theorem prod_f {x n : Int} (hx : -1099511627776 ≤ x ∧ x ≤ 1099511627776) (hn : -1099511627776 ≤ n ∧ n ≤ 1099511627776) : F156 x n = sat x n := by
  have hm := ab_mul x n
  have ha : ∀ z : Int, (-1099511627776 ≤ z ∧ z ≤ 1099511627776) → (if (z : Int) < (W (0 - z)) then (W (0 - z)) else z) = if z < 0 then 0 - z else z := by
    intro z hz
    rw [W_eq (n := 0 - z) (by omega) (by omega)]
    (repeat' split) <;> omega
  unfold F156 sat
  rw [ha x hx, ha n hn]
  by_cases hx0 : x = 0
  · subst hx0; simp [W_eq]
  by_cases hn0 : n = 0
  · subst hn0; simp [W_eq]
  rw [bne_iff_ne.2 hx0, bne_iff_ne.2 hn0, cond_true, cond_true]
  have a1 : 1 ≤ (if x < 0 then 0 - x else x) ∧ (if x < 0 then 0 - x else x) ≤ 1099511627776 := by split <;> omega
  have a2 : 1 ≤ (if n < 0 then 0 - n else n) ∧ (if n < 0 then 0 - n else n) ≤ 1099511627776 := by split <;> omega
  have e : (!(decide (x < 0) == decide (n < 0))) = decide (x * n = -((if x < 0 then 0 - x else x) * (if n < 0 then 0 - n else n)) ∧ ¬ ((x < 0) = (n < 0))) := by
    by_cases h1 : x < 0 <;> by_cases h2 : n < 0 <;> simp [h1, h2] at hm ⊢ <;> omega
  rw [e]
  generalize (if x < 0 then 0 - x else x) = ax at *
  generalize (if n < 0 then 0 - n else n) = an at *
  rw [Int.tdiv_eq_ediv_of_nonneg (by omega)]
  obtain ⟨d1, d2, d3⟩ := quo_bd (N := 1099511627776) (n := ax) (by omega) (by omega)
  have d4 := Int.mul_ediv_add_emod 1099511627776 ax
  have d5 := Int.emod_lt_of_pos 1099511627776 (show 0 < ax by omega)
  rw [W_eq (n := 1099511627776 / ax) (by omega) (by omega)]
  have hbig : an > 1099511627776 / ax ↔ 1099511627776 < ax * an := by
    constructor
    · intro h
      have := Int.mul_le_mul_of_nonneg_left (show 1099511627776 / ax + 1 ≤ an by omega) (show 0 ≤ ax by omega)
      rw [Int.mul_add, Int.mul_one] at this; omega
    · intro h
      rcases Int.lt_or_le (1099511627776 / ax) an with h' | h'
      · exact h'
      · have := Int.mul_le_mul_of_nonneg_left h' (show 0 ≤ ax by omega)
        rw [Int.mul_comm] at d3; omega
  by_cases hb : an > 1099511627776 / ax
  · rw [decide_eq_true hb, cond_true]
    have := hbig.1 hb
    rcases hm with ⟨q1, q2⟩ | ⟨q1, q2⟩
    · rw [decide_eq_false (fun h => h.2 q2), cond_false, q1, if_pos (by omega)]
    · rw [decide_eq_true ⟨q1, q2⟩, cond_true, q1, if_neg (by omega), if_pos (by omega)]
  · rw [decide_eq_false hb, cond_false]
    have h1 : ax * an ≤ 1099511627776 := by
      rcases Int.lt_or_le 1099511627776 (ax * an) with h | h
      · exact absurd (hbig.2 h) hb
      · exact h
    have h2 : 0 ≤ ax * an := Int.mul_nonneg (by omega) (by omega)
    rcases hm with ⟨q1, q2⟩ | ⟨q1, q2⟩ <;> rw [q1, if_neg (by omega), if_neg (by omega)] <;> exact W_eq (by omega) (by omega)
theorem sat_mono {x y n : Int} (h : x ≤ y) (hn : 0 ≤ n) : sat x n ≤ sat y n := by
  have := Int.mul_le_mul_of_nonneg_right h hn
  unfold sat; (repeat' split) <;> omega
theorem sat_anti {x y n : Int} (h : x ≤ y) (hn : n ≤ 0) : sat y n ≤ sat x n := by
  have := Int.mul_le_mul_of_nonpos_right h hn
  unfold sat; (repeat' split) <;> omega
def scl (a : Int × Int) (n : Int) : Int × Int := if n < 0 then (sat a.2 n, sat a.1 n) else (sat a.1 n, sat a.2 n)
def vs (a : Int × Int) : Prop := -1099511627776 ≤ a.1 ∧ a.1 ≤ a.2 ∧ a.2 ≤ 1099511627776
theorem Scale_f {a : Int × Int} {n : Int} (ha : vs a) (hn : -1099511627776 ≤ n ∧ n ≤ 1099511627776) : F125 a n = F74 (scl a n).1 (scl a n).2 := by
  obtain ⟨h1, h2, h3⟩ := ha
  unfold F125 F154_1 F155
  rw [val_f (a := a.1) (b := a.2) h1 h2 h3, decide_eq_true (show n ≥ -1099511627776 from hn.1), decide_eq_true hn.2, prod_f (x := a.1) (by omega) hn, prod_f (x := a.2) (by omega) hn]
  show ((F74 _ _).1, (F74 _ _).2) = _
  unfold scl
  by_cases h : n < 0
  · have := sat_anti h2 (show n ≤ 0 by omega)
    rw [if_pos h]
    simp only
    rw [show (if (sat a.2 n : Int) < sat a.1 n then sat a.2 n else sat a.1 n) = sat a.2 n by split <;> omega, show (if (sat a.1 n : Int) < sat a.2 n then sat a.2 n else sat a.1 n) = sat a.1 n by split <;> omega]
  · have := sat_mono h2 (show 0 ≤ n by omega)
    rw [if_neg h]
    simp only
    rw [show (if (sat a.2 n : Int) < sat a.1 n then sat a.2 n else sat a.1 n) = sat a.1 n by split <;> omega, show (if (sat a.1 n : Int) < sat a.2 n then sat a.2 n else sat a.1 n) = sat a.2 n by split <;> omega]
theorem val_r {a b : Int} (h1 : -1099511627776 ≤ a) (h2 : a ≤ b) (h3 : b ≤ 1099511627776) : F95 (a, b) = true := val_f h1 h2 h3
theorem told_eq (a b : Int) : F84 a b = F74 a b := rfl
theorem Scale_r {a : Int × Int} {n : Int} (ha : vs a) (hn : -1099511627776 ≤ n ∧ n ≤ 1099511627776) : F47 a n = F74 (scl a n).1 (scl a n).2 := by
  obtain ⟨h1, h2, h3⟩ := ha
  unfold F47
  rw [val_r (a := a.1) (b := a.2) h1 h2 h3, within_eq1, decide_eq_true hn, prod_r (x := a.1) (by omega) hn, prod_r (x := a.2) (by omega) hn, told_eq, told_eq]
  unfold scl
  by_cases h : n < 0
  · rw [if_pos h, decide_eq_true h]; rfl
  · rw [if_neg h, decide_eq_false h]; rfl
/-! halves -/
theorem res_cases (a b : Int) : (F74 a b = ((a, b), 0) ∧ vs (a, b)) ∨ F74 a b = ((0, 0), 4) := by
  by_cases h : vs (a, b)
  · exact Or.inl ⟨res_f h.1 h.2.1 h.2.2, h⟩
  · right
    unfold F74
    have : F113 (a, b) = false := by
      unfold F113
      by_cases h1 : (a, b).1 ≥ -1099511627776
      · by_cases h2 : (a, b).1 ≤ (a, b).2
        · rw [decide_eq_true h1, decide_eq_true h2, cond_true, cond_true]; exact decide_eq_false (fun h3 => h ⟨h1, h2, h3⟩)
        · rw [decide_eq_true h1, decide_eq_false h2]; rfl
      · rw [decide_eq_false h1]; rfl
    rw [this]; rfl

end Go.Proofs.YthpgabaeefifbaaGreat

namespace Go.Proofs.YthpgabaeefifbaaGreat
open Go.Proofs Go.Aw Go.RowKit
set_option maxRecDepth 100000
set_option linter.unusedVariables false
set_option linter.unusedSimpArgs false

/-! ### Solid angles -/
def ht (p : PN) (x : P3) : Int := dt (sb p.1 x) (cr (sb p.2.1 x) (sb p.2.2 x))
/-! ### Corners exchanged -/
end Go.Proofs.YthpgabaeefifbaaGreat

namespace Go.Proofs.YthpgabaeefifbaaGreat
open Go.Proofs Go.Aw Go.RowKit
set_option maxRecDepth 100000
set_option linter.unusedVariables false
set_option linter.unusedSimpArgs false

/-! ### Finer parts -/
/-! what is proved of a part holds of its parts -/
/-! sums -/
end Go.Proofs.YthpgabaeefifbaaGreat

namespace Go.Proofs.YthpgabaeefifbaaGreat
open Go.Proofs Go.Aw Go.RowKit
set_option maxRecDepth 100000
set_option linter.unusedVariables false
set_option linter.unusedSimpArgs false

theorem cut64 (p : PN) {d : Int} (h : 0 ≤ d ∧ d ≤ 3) : (cutL (Int.toNat d) p).length ≤ 64 := by
  have h1 := cnt_len h p; have h2 := cnt_in d; omega
theorem mut_le {p q : PN} {d : Int} (h : F92 p q d = 0) : 0 ≤ d ∧ d ≤ 3 := paired_le (p := p) (q := q) (by rw [h]; rfl)
theorem mut_hr {p q : PN} {d : Int} (h : F92 p q d = 0) : W (128 * F157 (F116 (F77 p) (F77 p))) ≠ 0 := paired_hr (p := p) (q := q) (by rw [h]; rfl)

noncomputable def RA49 : Code := match (codeAtD [1, 1, 1, 0, 1, 0] [] (Tryz.f49.body.getD .skip)).1 with
  | .rangeFunc _ _ a b => a
  | _ => .skip

noncomputable def RB49 : Code := match (codeAtD [1, 1, 1, 0, 1, 0] [] (Tryz.f49.body.getD .skip)).1 with
  | .rangeFunc _ _ a b => b
  | _ => .skip

noncomputable def RK49 : List K := (codeAtD [1, 1, 1, 0, 1, 0] [] (Tryz.f49.body.getD .skip)).2

def st49 (a0 : (Int × Int × Int) × (Int × Int × Int) × Int × Int × Int) (a1 : (Int × Int × Int) × (Int × Int × Int) × Int × Int × Int) (a2 : Int) : List (Int × Int) → LS
  | v1 => ⟨[.u, .u, .u, (.p 0 0), .u, (.p 1 0), (.p 2 0), .u, .u, (.p 3 0), .u, .u, .u, .u, .u, .u, .u, .u, .u, .u, .u, (.f 136 [(.p 4 0), (.p 5 0)]), .u, .u, .u, .u, .u, .u, .u, .u, .u, .u, .u, .u], [(.live true false (k9 a0)), (.live true false [(iv a2)]), (.live true false [(iv 0), (iv 0)]), (.live true false [(.s 6 0 v1.length 2)]), (.live true false (k9 a1)), (.live true false [(iv a2)]), (.live true true (flat c41 v1))]⟩

def sA49 (a0 : (Int × Int × Int) × (Int × Int × Int) × Int × Int × Int) (a1 : (Int × Int × Int) × (Int × Int × Int) × Int × Int × Int) (a2 : Int) : List (Int × Int) → (Int × Int × Int) × (Int × Int × Int) × Int × Int × Int → LS
  | v1, x => ⟨[.u, .u, .u, (.p 0 0), .u, (.p 1 0), .u, .u, .u, (.p 3 0), (.p 6 0), .u, .u, .u, .u, .u, .u, .u, .u, .u, .u, .u, .u, .u, .u, .u, .u, .u, .u, .u, .u, .u, .u, .u], [(.live true false (k9 a0)), (.live true false [(iv a2)]), (.live true false [(iv 0), (iv 0)]), (.live true false [(.s 7 0 v1.length 2)]), (.live true false (k9 a1)), (.live true false [(iv a2)]), (.live true false (k9 x)), (.live true true (flat c41 v1))]⟩

def S49_r (a0 : (Int × Int × Int) × (Int × Int × Int) × Int × Int × Int) (a1 : (Int × Int × Int) × (Int × Int × Int) × Int × Int × Int) (a2 : Int) : List (Int × Int) → (Int × Int × Int) × (Int × Int × Int) × Int × Int × Int → List (Int × Int)
  | v1, x =>
   (v1 ++ [(F88 a0 x a2)])

def G49 (a0 : (Int × Int × Int) × (Int × Int × Int) × Int × Int × Int) (a1 : (Int × Int × Int) × (Int × Int × Int) × Int × Int × Int) (a2 : Int) : List (Int × Int) → (Int × Int) × Int
  | v1 =>
   ((F99_L v1).1, (F99_L v1).2)

def inv49 (a0 : (Int × Int × Int) × (Int × Int × Int) × Int × Int × Int) (a1 : (Int × Int × Int) × (Int × Int × Int) × Int × Int × Int) (a2 : Int) : Nat → List (Int × Int) → Prop
  | i, v1 => (v1.length = i)

def F49 (a0 : (Int × Int × Int) × (Int × Int × Int) × Int × Int × Int) (a1 : (Int × Int × Int) × (Int × Int × Int) × Int × Int × Int) (a2 : Int) : (Int × Int) × Int :=
  (bif (((F87 a0 a1 a2) : Int) != 0) then
   ((0, 0), (F87 a0 a1 a2))
  else
   (G49 a0 a1 a2 ((cutL (Int.toNat a2) a1).foldl (S49_r a0 a1 a2) ([] : List (Int × Int)))))

theorem C49 (a0 : (Int × Int × Int) × (Int × Int × Int) × Int × Int × Int) (a1 : (Int × Int × Int) × (Int × Int × Int) × Int × Int × Int) (a2 : Int) : Con Tryz.prog 49 [(.a (k9 a0)), (.a (k9 a1)), (iv a2)] [] (.t [(.a (k2 (F49 a0 a1 a2).1)), (iv (F49 a0 a1 a2).2)]) [] := by
  cases h0 : (((F87 a0 a1 a2) : Int) != 0) with
  | true =>
    have q0 := bne_iff_ne.1 h0
    have e : (F49 a0 a1 a2) = ((0, 0), (F87 a0 a1 a2)) := by simp only [F49, h0, cond_true, cond_false]
    rw [e]
    refine con_of_mark (n := 9) Tryz.func49 rfl (ent Tryz.func49 (by kernel_rfl) rfl) (by show 3 ≤ Tryz.f49.ntmps; decide) (by kernel_rfl) trivial (fun cx hcx => ?_)
    exact retM_of (T := T0) hT hm (f := 5000) (orc := [.call [] (iv (F87 a0 a1 a2)) [], .d true]) [] [] [] hcx
      (obs := [.call 87 [(.a (k9 a0)), (.a (k9 a1)), (iv a2)] [] (iv (F87 a0 a1 a2)) [], .eq (((F87 a0 a1 a2) : Int) != 0) true]) (by kernel_rfl) ⟨(C87 a0 a1 a2), h0, trivial⟩
  | false =>
    have q0 := bne_eq_false_iff_eq.1 h0
    have e : (F49 a0 a1 a2) = (G49 a0 a1 a2 ((cutL (Int.toNat a2) a1).foldl (S49_r a0 a1 a2) ([] : List (Int × Int)))) := by simp only [F49, h0, cond_true, cond_false]
    rw [e]
    refine con_of_mark (n := 9) Tryz.func49 rfl (ent Tryz.func49 (by kernel_rfl) rfl) (by show 3 ≤ Tryz.f49.ntmps; decide) (by kernel_rfl) trivial (fun cx hcx => ?_)
    refine at_of (T := T0) hT hm (f := 5000) (orc := [.call [] (iv (F87 a0 a1 a2)) [], .d false, .call [] (.f 136 [(.p 0 0), (.p 1 0)]) [(.live true false (k9 a1)), (.live true false [(iv a2)])]]) [.cell 4 0 2] [3, 5, 6, 9, 21] [0, 2, 3, 4, 5, 6, 7] hcx (x := .rangeFunc (.tmp 21) #[22] RA49 RB49) (k' := RK49) (s' := st49 a0 a1 a2 ([] : List (Int × Int)))
      (obs := [.call 87 [(.a (k9 a0)), (.a (k9 a1)), (iv a2)] [] (iv (F87 a0 a1 a2)) [], .eq (((F87 a0 a1 a2) : Int) != 0) false, .call 98 [(.a (k9 a1)), (iv a2)] [] (.f 136 [(.p 0 0), (.p 1 0)]) [(.live true false (k9 a1)), (.live true false [(iv a2)])]]) (by kernel_rfl) ⟨(C87 a0 a1 a2), h0, (C98 a1 a2), trivial⟩ ?_
    refine range_of (xs := cutL (Int.toNat a2) a1) (enc := encP) (V := List (Int × Int)) (R' := Empty) hcx rfl [4, 5] [(.p 0 0), (.p 1 0)] [(.live false false (k9 a1)), (.live false false [(iv a2)])] rfl rfl (iter_cutI a1 a2 (by first | omega | exact pair_le h0)) (fun x => SV.a (cP x)) encP_rel cP_has 6 (Nat.le_of_ble_eq_true rfl) (of_decide_eq_true (by kernel_rfl))
      (st49 a0 a1 a2) ([] : List (Int × Int)) rfl (fun v1 => (by kernel_rfl)) (by kernel_rfl) (fun v v' => (roSub_own (roSub_own (roSub_own (roSub_own (roSub_own (roSub_own (roSub_own roSub_nil)))))))) (fun v1 => (by kernel_rfl)) (fun v1 => (by kernel_rfl)) (fun v1 => (Nat.le_of_ble_eq_true (by kernel_rfl)))
      (fun v x => .inl (S49_r a0 a1 a2 v x)) (fun r => r.elim) (fun v r => r.elim) (fun r => r.elim)
      (inv49 a0 a1 a2) (by simp [inv49]) (sA49 a0 a1 a2) (fun v1 x => (by kernel_rfl)) (fun v1 x => (by kernel_rfl)) (fun v1 x => (Nat.le_of_ble_eq_true (by kernel_rfl)))
      (fun cx' l i v1 x QA hcx' hx hinv hg => norm_of (T := T0) hT hm (f := 5000) (orc := []) [] [3, 5, 9, 10] [7, 6] hcx' (obs := []) (by kernel_rfl) trivial hg)
      (fun cx' l i v1 x QB hcx' hx hinv hb1 hb2 => ?_) (fun cx' d v1 hh hv hinv => ?_) (fun cx' d r hh hv => ?_)
    · show Aw.Good _ _ _ _ _ _ _ (sA49 a0 a1 a2 v1 x)
      simp only [inv49] at hinv
      have ha := pair_le h0
      have hlt := cut_lt ha hx
      have e : (Sum.inl (S49_r a0 a1 a2 v1 x) : (List (Int × Int)) ⊕ Empty) = .inl (v1 ++ [(F88 a0 x a2)]) := by simp only [S49_r]
      refine norm_of (T := T0) hT hm (f := 5000) (orc := [.call [] (.a (k2 (F88 a0 x a2))) []]) [] [] [9] hcx' (s' := ⟨List.replicate 34 .u, [(.live true false (k9 a0)), (.live true false [(iv a2)]), (.live true false [(iv 0), (iv 0)]), (.live true false [(.s 6 0 (v1.length + 1) 2)]), (.live true false (k9 a1)), (.live true false [(iv a2)]), (.live true true (flat c41 v1 ++ (k2 (F88 a0 x a2))))]⟩)
        (obs := [.call 88 [(.a (k9 a0)), (.a (k9 x)), (iv a2)] [] (.a (k2 (F88 a0 x a2))) [], .pr ((flat c41 v1).length = v1.length * 2 ∧ v1.length + 1 ≤ 2 ^ 40 ∧ (v1.length + 1) * 16 ≤ 2 ^ 47)]) (by kernel_rfl) ⟨(C88 a0 x a2  (pair_vp h0) (pair_le h0)), (show ((flat c41 v1).length = v1.length * 2 ∧ v1.length + 1 ≤ 2 ^ 40 ∧ (v1.length + 1) * 16 ≤ 2 ^ 47) from app_ok c41_len (by omega) (by omega)), trivial⟩ ?_
      have z0 : (flat c41 v1 ++ (k2 (F88 a0 x a2))) = (flat c41 (v1 ++ [(F88 a0 x a2)])) := (flat_append (c := c41) (l := v1) (m := [(F88 a0 x a2)])).symm
      have z1 : (v1.length + 1) = (v1 ++ [(F88 a0 x a2)]).length := len_app v1 [(F88 a0 x a2)] rfl
      rw [z0, z1]
      exact hb1 _ e (by simp only [inv49, List.length_append, List.length_cons, List.length_nil]; omega)
    · rw [runL_foldl, Sum.inl.injEq] at hv; rw [hv]
      show Aw.Good _ _ _ _ _ _ _ (st49 a0 a1 a2 v1)
      simp only [inv49] at hinv
      have hcl := cut64 a1 (pair_le h0)
      have e : G49 a0 a1 a2 v1 = ((F99_L v1).1, (F99_L v1).2) := by simp only [G49]
      rw [e]
      exact retH_of (T := T0) hT hm (f := 5000) (orc := [.call [6] (.t [(.a (k2 (F99_L v1).1)), (iv (F99_L v1).2)]) []]) [] [] [] hh hcx
        (obs := [.call 99 [(.s 0 0 v1.length 2)] [(.live false true (flat c41 v1))] (.t [(.a (k2 (F99_L v1).1)), (iv (F99_L v1).2)]) []]) (by kernel_rfl) ⟨(C99_L v1 (by (try simp only [List.length_append, List.length_cons, List.length_nil, Int.toNat_zero]); omega)), trivial⟩
    · exact r.elim

noncomputable def B51_0 : Code := (loopAtD [1, 1, 1, 1, 0, 1] [] (bodyOf Tryz.f51) []).1
noncomputable def K51_0 : List K := (loopAtD [1, 1, 1, 1, 0, 1] [] (bodyOf Tryz.f51) []).2

def st51_0 (a0 : (Int × Int × Int) × (Int × Int × Int) × Int × Int × Int) (a1 : (Int × Int × Int) × (Int × Int × Int) × Int × Int × Int) (a2 : Int) (v2c : List SV) (v2n : Nat) (v3 : Int) : LS := ⟨slN 43 [(2, (iv a2)), (3, (.p 0 0)), (6, (.p 1 0)), (9, (.s 2 0 v2n 2)), (10, (.s 3 0 (F100 a1 a2).length 9)), (11, (iv v3))], [(.live true false (k9 a0)), (.live true false [(iv 0), (iv 0)]), (.live true true v2c), (.live true true (flat c65 (F100 a1 a2)))]⟩

def S51_0 (a0 : (Int × Int × Int) × (Int × Int × Int) × Int × Int × Int) (a1 : (Int × Int × Int) × (Int × Int × Int) × Int × Int × Int) (a2 : Int) : (List (Int × Int)) × Int → ((List (Int × Int)) × Int) ⊕ ((Int × Int) × Int)
  | (v2, v3) =>
   (bif (decide ((v3 : Int) < (((F100 a1 a2).length : Nat) : Int))) then
    (.inl ((v2 ++ [(F93 a0 a2 ((F100 a1 a2).getD (Int.toNat v3) default))]), (v3 + 1)))
   else
    (.inr ((F101_L v2).1, (F101_L v2).2)))

set_option maxHeartbeats 4000000 in
theorem L51_0 (a0 : (Int × Int × Int) × (Int × Int × Int) × Int × Int × Int) (a1 : (Int × Int × Int) × (Int × Int × Int) × Int × Int × Int) (a2 : Int) {cx : Cx} (hcx : cx.base = 0) : ∀ (n : Nat) (v2 : List (Int × Int)) (v3 : Int), (0 ≤ v3) ∧ (F92 a0 a1 a2 = 0) ∧ (v2.length = Int.toNat v3) ∧ (v3 ≤ (F100 a1 a2).length) → Int.toNat ((((F100 a1 a2).length : Nat) : Int) - v3) < n → Aw.Good Tryz.prog none 9 (bodyPost Tryz.prog Tryz.f51 (RR cx (.t [(.a (k2 (loopF (S51_0 a0 a1 a2) n (v2, v3)).1)), (iv (loopF (S51_0 a0 a1 a2) n (v2, v3)).2)]) [] [])) cx [] (.l B51_0 n :: K51_0) (st51_0 a0 a1 a2 (flat c41 v2) v2.length v3) := by
  intro n
  induction n with
  | zero => intro v2 v3 hi hn; exact absurd hn (Nat.not_lt_zero _)
  | succ n ih =>
    intro v2 v3 hi hn
    refine good_round ?_
    have hcl := cut_le (p := a1) (mut_le (p := a0) (q := a1) (d := a2) (by omega))
    cases h0 : (decide ((v3 : Int) < (((F100 a1 a2).length : Nat) : Int))) with
    | true =>
     have q0 := of_decide_eq_true h0
     have e := Eq.refl (S51_0 a0 a1 a2 (v2, v3)); conv at e => rhs; simp only [S51_0, h0, cond_true, cond_false]
     rw [loopF_inl e]
     refine ba [.d h0, .i v3 ((F100 a1 a2).length), .L c65_len (F100 a1 a2) v3 0 9, .c [] (C93 a0 a2 ((F100 a1 a2).getD (Int.toNat v3) default)  (mut_le (p := a0) (q := a1) (d := a2) (by omega)) (mut_hr (p := a0) (q := a1) (d := a2) (by omega))), .p (show ((flat c41 v2).length = v2.length * 2 ∧ v2.length + 1 ≤ 2 ^ 40 ∧ (v2.length + 1) * 16 ≤ 2 ^ 47) from app_ok c41_len (by omega) (by omega))] [] [2, 3, 6, 9, 10, 11] [0, 1, 5, 3] hcx (m := n) B51_0 (K51_0) (st51_0 a0 a1 a2 (flat c41 v2 ++ (k2 (F93 a0 a2 ((F100 a1 a2).getD (Int.toNat v3) default)))) (v2.length + 1) (W (v3 + 1))) (by kernel_rfl) ?_
     have z0 : (W (v3 + 1)) = (v3 + 1) := W_eq (by omega) (by omega)
     have z1 : (flat c41 v2 ++ (k2 (F93 a0 a2 ((F100 a1 a2).getD (Int.toNat v3) default)))) = (flat c41 (v2 ++ [(F93 a0 a2 ((F100 a1 a2).getD (Int.toNat v3) default))])) := (flat_append (c := c41) (l := v2) (m := [(F93 a0 a2 ((F100 a1 a2).getD (Int.toNat v3) default))])).symm
     have z2 : (v2.length + 1) = (v2 ++ [(F93 a0 a2 ((F100 a1 a2).getD (Int.toNat v3) default))]).length := len_app v2 [(F93 a0 a2 ((F100 a1 a2).getD (Int.toNat v3) default))] rfl
     rw [z0, z1, z2]
     exact ih (v2 ++ [(F93 a0 a2 ((F100 a1 a2).getD (Int.toNat v3) default))]) (v3 + 1) (by refine ⟨?_, ?_, ?_, ?_⟩ <;> (try simp only [List.length_append, List.length_cons, List.length_nil, Int.toNat_zero]) <;> first | omega | assumption | simp) (by (try simp only [List.length_append, List.length_cons, List.length_nil, Int.toNat_zero]); omega)
    | false =>
     have q0 := of_decide_eq_false h0
     have e := Eq.refl (S51_0 a0 a1 a2 (v2, v3)); conv at e => rhs; simp only [S51_0, h0, cond_true, cond_false]
     rw [loopF_s, e]
     exact rt [.d h0, .c [2] (C101_L v2 (by (try simp only [List.length_append, List.length_cons, List.length_nil, Int.toNat_zero]); omega))] [] [] hcx (by kernel_rfl)

def F51 (a0 : (Int × Int × Int) × (Int × Int × Int) × Int × Int × Int) (a1 : (Int × Int × Int) × (Int × Int × Int) × Int × Int × Int) (a2 : Int) : (Int × Int) × Int :=
  (bif (((F92 a0 a1 a2) : Int) != 0) then
   ((0, 0), (F92 a0 a1 a2))
  else
   (loopF (S51_0 a0 a1 a2) (Int.toNat ((((F100 a1 a2).length : Nat) : Int) - 0) + 1) (([] : List (Int × Int)), 0)))

theorem C51 (a0 : (Int × Int × Int) × (Int × Int × Int) × Int × Int × Int) (a1 : (Int × Int × Int) × (Int × Int × Int) × Int × Int × Int) (a2 : Int) : Con Tryz.prog 51 [(.a (k9 a0)), (.a (k9 a1)), (iv a2)] [] (.t [(.a (k2 (F51 a0 a1 a2).1)), (iv (F51 a0 a1 a2).2)]) [] := by
  refine con_s Tryz.func51 (by kernel_rfl) fun cx hcx => ?_
  let t0 : List (St Tryz.prog) := [.c [] (C92 a0 a1 a2)]
  cases h0 : (((F92 a0 a1 a2) : Int) != 0) with
  | true =>
   have q0 := bne_iff_ne.1 h0
   have e := Eq.refl (F51 a0 a1 a2); conv at e => rhs; simp only [F51, h0, cond_true, cond_false]
   rw [e]
   exact rt (t0 ++ [.d h0]) [] [] hcx (by kernel_rfl)
  | false =>
   have q0 := bne_eq_false_iff_eq.1 h0
   have e := Eq.refl (F51 a0 a1 a2); conv at e => rhs; simp only [F51, h0, cond_true, cond_false]
   rw [e]
   refine en (t0 ++ [.d h0, .c [] (C100 a1 a2  (paired_le h0))]) [.slot 9 2] [2, 3, 6, 9, 10, 11] [0, 2, 4, 3] hcx B51_0 (K51_0) (st51_0 a0 a1 a2 (flat c41 ([] : List (Int × Int))) 0 0) (Int.toNat ((((F100 a1 a2).length : Nat) : Int) - 0) + 1) (by kernel_rfl) ?_
   exact L51_0 a0 a1 a2 hcx (Int.toNat ((((F100 a1 a2).length : Nat) : Int) - 0) + 1) ([] : List (Int × Int)) 0 (by refine ⟨?_, ?_, ?_, ?_⟩ <;> (try simp only [List.length_append, List.length_cons, List.length_nil, Int.toNat_zero]) <;> first | omega | assumption | simp) (by (try simp only [List.length_append, List.length_cons, List.length_nil, Int.toNat_zero]); omega)

end Go.Proofs.YthpgabaeefifbaaGreat

namespace Go.Proofs.YthpgabaeefifbaaGreat
open Go.Proofs Go.Aw Go.RowKit
set_option maxRecDepth 100000
set_option linter.unusedVariables false
set_option linter.unusedSimpArgs false

/-! ### Means of lists of spans -/
def sums : List (Int × Int) → Int × Int → Int × Int
  | [], v => v
  | a :: l, v => sums l (v.1 + a.1, v.2 + a.2)
theorem sums_eq : ∀ (l : List (Int × Int)) (v : Int × Int), sums l v = (v.1 + (l.map (·.1)).sum, v.2 + (l.map (·.2)).sum)
  | [], v => by simp [sums]
  | a :: l, v => by rw [sums, sums_eq l]; simp only [List.map_cons, List.sum_cons, Int.add_assoc]
def okE (a : Int × Int) : Prop := 0 ≤ a.1 ∧ a.1 ≤ a.2 ∧ a.2 ≤ 536870913
theorem sums_ok : ∀ {l : List (Int × Int)} {v : Int × Int}, (∀ a ∈ l, okE a) → okv v l.length → okv (sums l v) 0
  | [], v, _, h => h
  | a :: l, v, hl, h => sums_ok (l := l) (fun c hc => hl c (List.mem_cons_of_mem _ hc)) (okv_add h (hl a List.mem_cons_self))
theorem sums_loopF {R : Type} [Inhabited R] {S : Int × Int × Int → (Int × Int × Int) ⊕ R} {G : Int × Int → R} {L : List (Int × Int)} (hl : ∀ a ∈ L, okE a)
    (hS : ∀ (i : Nat) (a : Int × Int), L[i]? = some a → ∀ v1 v2 : Int, S (v1, v2, (i : Int)) = .inl (W (v1 + a.1), W (v2 + a.2), ((i + 1 : Nat) : Int)))
    (hE : ∀ v1 v2 : Int, S (v1, v2, (L.length : Int)) = .inr (G (v1, v2))) :
    ∀ (l : List (Int × Int)) (i n : Nat) (v : Int × Int), L.drop i = l → i ≤ L.length → l.length < n → okv v l.length → loopF S n (v.1, v.2, (i : Int)) = G (sums l v)
  | [], i, n, v, hd, hi', hn, h => by
    have : i = L.length := by have := List.drop_eq_nil_iff.1 hd; omega
    obtain ⟨n, rfl⟩ : ∃ m, n = m + 1 := ⟨n - 1, by simp only [List.length_nil] at hn; omega⟩
    subst this
    rw [loopF_inr (hE _ _)]; rfl
  | c :: l, i, n, v, hd, hi', hn, h => by
    have hc : L[i]? = some c := by
      have : (L.drop i)[0]? = some c := by rw [hd]; rfl
      simpa using this
    obtain ⟨hlt, hce⟩ := List.getElem?_eq_some_iff.1 hc
    obtain ⟨n, rfl⟩ : ∃ m, n = m + 1 := ⟨n - 1, by omega⟩
    have h1 := okv_add h (hl c (hce ▸ List.getElem_mem hlt))
    have h2 := h1
    unfold okv at h2; simp only at h2
    rw [loopF_inl (hS i c hc v.1 v.2), W_eq (by omega) (by omega), W_eq (by omega) (by omega)]
    exact sums_loopF hl hS hE l (i + 1) n _ (by rw [← List.drop_drop, hd]; rfl) (by omega) (by simp only [List.length_cons] at hn; omega) h1
section
variable {l : List (Int × Int)}
theorem okE_val {a : Int × Int} (h : okE a) : F113 a = true := val_f (a := a.1) (b := a.2) (by have := h.1; omega) h.2.1 (by have := h.2.2; omega)
theorem okv_len (hn : l.length ≤ 64) : okv (0, 0) l.length := by unfold okv; simp only; omega
theorem chkL (hl : ∀ a ∈ l, okE a) : F154_L l = 0 := by
  have key : ∀ (m : List (Int × Int)) (i n : Nat), l.drop i = m → i ≤ l.length → m.length < n → loopF (S154_L_0 l) n (i : Int) = 0 := by
    intro m
    induction m with
    | nil =>
      intro i n hd hi hn
      have : i = l.length := by have := List.drop_eq_nil_iff.1 hd; omega
      obtain ⟨n, rfl⟩ : ∃ m, n = m + 1 := ⟨n - 1, by simp only [List.length_nil] at hn; omega⟩
      subst this
      refine loopF_inr ?_
      simp only [S154_L_0]
      rw [decide_eq_false (Int.lt_irrefl _), cond_false]
    | cons c m ih =>
      intro i n hd hi hn
      have hc : l[i]? = some c := by
        have : (l.drop i)[0]? = some c := by rw [hd]; rfl
        simpa using this
      obtain ⟨hlt, hce⟩ := List.getElem?_eq_some_iff.1 hc
      obtain ⟨n, rfl⟩ : ∃ m, n = m + 1 := ⟨n - 1, by omega⟩
      have hg : l.getD i default = c := by rw [List.getD_eq_getElem?_getD, hc]; rfl
      have e : S154_L_0 l (i : Int) = .inl ((i + 1 : Nat) : Int) := by
        simp only [S154_L_0]
        rw [decide_eq_true (show ((i : Nat) : Int) < (l.length : Nat) by omega), cond_true, Int.toNat_natCast, hg, okE_val (hl c (hce ▸ List.getElem_mem hlt))]; rfl
      rw [loopF_inl e]
      exact ih (i + 1) n (by rw [← List.drop_drop, hd]; rfl) (by omega) (by simp only [List.length_cons] at hn; omega)
  unfold F154_L
  exact key l 0 _ rfl (Nat.zero_le _) (by omega)
theorem tot_f (hl : ∀ a ∈ l, okE a) (hn : l.length ≤ 64) : F139_L l = ((sums l (0, 0)).1, (sums l (0, 0)).2, 0) := by
  unfold F139_L
  rw [decide_eq_false (by omega), cond_false, chkL hl]
  show loopF _ _ (((0, 0) : Int × Int).1, ((0, 0) : Int × Int).2, ((0 : Nat) : Int)) = _
  refine sums_loopF (G := fun v => (v.1, v.2, 0)) hl (fun i a hi v1 v2 => ?_) (fun v1 v2 => ?_) l 0 _ (0, 0) rfl (Nat.zero_le _) (by omega) (okv_len hn)
  · obtain ⟨hlt, hce⟩ := List.getElem?_eq_some_iff.1 hi
    have hg : l.getD i default = a := by rw [List.getD_eq_getElem?_getD, hi]; rfl
    simp only [S139_L_0]
    rw [decide_eq_true (show ((i : Nat) : Int) < (l.length : Nat) by omega), cond_true, Int.toNat_natCast, hg]; rfl
  · simp only [S139_L_0]
    rw [decide_eq_false (Int.lt_irrefl _), cond_false]
theorem tot_r (hl : ∀ a ∈ l, okE a) (hn : l.length ≤ 64) : F97_L l = ((sums l (0, 0)).1, (sums l (0, 0)).2, 0) := by
  unfold F97_L
  rw [decide_eq_false (by omega), cond_false]
  show loopF _ _ (((0, 0) : Int × Int).1, ((0, 0) : Int × Int).2, ((0 : Nat) : Int)) = _
  refine sums_loopF (G := fun v => (v.1, v.2, 0)) hl (fun i a hi v1 v2 => ?_) (fun v1 v2 => ?_) l 0 _ (0, 0) rfl (Nat.zero_le _) (by omega) (okv_len hn)
  · obtain ⟨hlt, hce⟩ := List.getElem?_eq_some_iff.1 hi
    have hg : l.getD i default = a := by rw [List.getD_eq_getElem?_getD, hi]; rfl
    simp only [S97_L_0]
    rw [decide_eq_true (show ((i : Nat) : Int) < (l.length : Nat) by omega), cond_true, Int.toNat_natCast, hg, show F95 a = true from okE_val (hl a (hce ▸ List.getElem_mem hlt))]; rfl
  · simp only [S97_L_0]
    rw [decide_eq_false (Int.lt_irrefl _), cond_false]
theorem avg_bd {v : Int × Int} {n : Int} (hn : n = 1 ∨ n = 4 ∨ n = 16 ∨ n = 64) (h : okv v 0) : -1099511627776 ≤ v.1 / n ∧ v.1 / n ≤ -(-v.2 / n) ∧ -(-v.2 / n) ≤ 1099511627776 := by
  unfold okv at h; rcases hn with rfl | rfl | rfl | rfl <;> omega
theorem meanL_f (hl : ∀ a ∈ l, okE a) {n : Int} (hn : n = 1 ∨ n = 4 ∨ n = 16 ∨ n = 64) (hk : ((l.length : Nat) : Int) = n) : F99_L l = (avg (sums l (0, 0)) n, 0) := by
  have h64 : l.length ≤ 64 := by omega
  have ho := sums_ok hl (okv_len h64)
  have hb := avg_bd hn ho
  unfold okv at ho
  unfold F99_L
  rw [tot_f hl h64, hk, beq_eq_false_iff_ne.2 (show n ≠ 0 by omega), dn_f hn (by simp only; omega), up_f hn (by simp only; omega), res_f hb.1 hb.2.1 hb.2.2]; rfl
theorem meanL_r (hl : ∀ a ∈ l, okE a) {n : Int} (hn : n = 1 ∨ n = 4 ∨ n = 16 ∨ n = 64) (hk : ((l.length : Nat) : Int) = n) : F101_L l = (avg (sums l (0, 0)) n, 0) := by
  have h64 : l.length ≤ 64 := by omega
  have ho := sums_ok hl (okv_len h64)
  have hb := avg_bd hn ho
  unfold okv at ho
  unfold F101_L
  rw [tot_r hl h64, hk, beq_eq_false_iff_ne.2 (show n ≠ 0 by omega), dn_r hn (by simp only; omega), up_r hn (by simp only; omega), res_r hb.1 hb.2.1 hb.2.2]; rfl
end
/-! ### The mean over two panels -/
theorem accS_eq (lo hi : PN → Int) : ∀ (l : List PN) (v : Int × Int), accS lo hi l v = (v.1 + (l.map lo).sum, v.2 + (l.map hi).sum)
  | [], v => by simp [accS]
  | a :: l, v => by rw [accS, accS_eq lo hi l]; simp only [List.map_cons, List.sum_cons, Int.add_assoc]
theorem bet_ok {p q : PN} {d : Int} (hp : vp p = 0) (hd : 0 ≤ d ∧ d ≤ 3) : okE (betS p q d) := by
  have hb := b_ok (q := q) hp hd
  have hk := okv_0 (p := p) hd
  have ho := accS_ok hb hk
  have hs : (accS (bLo d q) (bHi (F119 p d) d q) (cutL d.toNat p) (0, 0)).2 ≤ 536870913 * (sc d * sc d) := by
    rw [accS_eq, ← cnt_len hd p]
    simp only [Int.zero_add]
    have key : ∀ l : List PN, (∀ c ∈ l, bHi (F119 p d) d q c ≤ 536870913) → (l.map (bHi (F119 p d) d q)).sum ≤ 536870913 * (l.length : Nat) := by
      intro l
      induction l with
      | nil => intro _; simp
      | cons c l ih =>
        intro h
        have h1 := h c List.mem_cons_self; have h2 := ih (fun c hc => h c (List.mem_cons_of_mem _ hc))
        simp only [List.map_cons, List.sum_cons, List.length_cons]; omega
    exact key _ (fun c hc => (hb c hc).2.2)
  unfold betS okE avg
  unfold okv at ho
  have hn := cnt_in d
  generalize accS (bLo d q) (bHi (F119 p d) d q) (cutL d.toNat p) (0, 0) = v at *
  simp only
  rcases hn with h | h | h | h <;> rw [h] at hs ⊢ <;> omega
theorem foldl_map {α β : Type} (g : α → β) : ∀ (l : List α) (a : List β), l.foldl (fun v x => v ++ [g x]) a = a ++ l.map g
  | [], a => by simp
  | x :: l, a => by rw [List.foldl_cons, foldl_map g l]; simp
noncomputable def mutL (p q : PN) (d : Int) : List (Int × Int) := (cutL d.toNat q).map fun b => betS p b d
noncomputable def mutV (p q : PN) (d : Int) : (Int × Int) × Int := if pk p q d = 0 then (avg (sums (mutL p q d) (0, 0)) (sc d * sc d), 0) else ((0, 0), pk p q d)
theorem mutL_ok {p q : PN} {d : Int} (hp : vp p = 0) (hd : 0 ≤ d ∧ d ≤ 3) : ∀ a ∈ mutL p q d, okE a := by
  intro a ha
  obtain ⟨b, _, rfl⟩ := List.mem_map.1 ha
  exact bet_ok hp hd
theorem mutL_len {p q : PN} {d : Int} (hd : 0 ≤ d ∧ d ≤ 3) : (((mutL p q d).length : Nat) : Int) = sc d * sc d := by
  unfold mutL; rw [List.length_map]; exact cnt_len hd q
theorem Mutual_f (p q : PN) (d : Int) : F49 p q d = mutV p q d := by
  unfold F49 mutV
  rw [pair_eq]
  by_cases h : pk p q d = 0
  · obtain ⟨h1, h2, h3⟩ := pk_ok h
    have hd : 0 ≤ d ∧ d ≤ 3 := by omega
    rw [if_pos h, h]
    have e : (cutL d.toNat q).foldl (S49_r p q d) [] = mutL p q d := by
      have := foldl_map (fun b => F88 p b d) (cutL d.toNat q) []
      rw [List.nil_append] at this
      refine Eq.trans this ?_
      unfold mutL
      exact List.map_congr_left (fun b hb => bet_f h1 ((cutL_in (vp_ok h2).1 hd hb).mono (by omega)) hd)
    rw [e]
    show (F99_L (mutL p q d)) = _
    exact meanL_f (mutL_ok h1 hd) (cnt_in d) (mutL_len hd)
  · rw [if_neg h, bne_iff_ne.2 h, cond_true]
theorem Mutual_r (p q : PN) (d : Int) : F51 p q d = mutV p q d := by
  unfold F51 mutV
  rw [paired_eq]
  by_cases h : pk p q d = 0
  · obtain ⟨h1, h2, h3⟩ := pk_ok h
    have hd : 0 ≤ d ∧ d ≤ 3 := by omega
    have hL := cutR (vp_ok h2).1 hd
    rw [if_pos h, h]
    have key : ∀ (m : List PN) (i n : Nat) (v : List (Int × Int)), (cutL d.toNat q).drop i = m → i ≤ (cutL d.toNat q).length → m.length < n →
        loopF (S51_0 p q d) n (v, (i : Int)) = F101_L (v ++ m.map fun b => betS p b d) := by
      intro m
      induction m with
      | nil =>
        intro i n v hdr hi hn
        have : i = (cutL d.toNat q).length := by have := List.drop_eq_nil_iff.1 hdr; omega
        obtain ⟨n, rfl⟩ : ∃ m, n = m + 1 := ⟨n - 1, by simp only [List.length_nil] at hn; omega⟩
        subst this
        refine loopF_inr ?_
        simp only [S51_0]
        rw [hL, decide_eq_false (Int.lt_irrefl _), cond_false, List.map_nil, List.append_nil]
      | cons c m ih =>
        intro i n v hdr hi hn
        have hc : (cutL d.toNat q)[i]? = some c := by
          have : ((cutL d.toNat q).drop i)[0]? = some c := by rw [hdr]; rfl
          simpa using this
        obtain ⟨hlt, hce⟩ := List.getElem?_eq_some_iff.1 hc
        have hm : c ∈ cutL d.toNat q := hce ▸ List.getElem_mem hlt
        obtain ⟨n, rfl⟩ : ∃ m, n = m + 1 := ⟨n - 1, by omega⟩
        have hg : (cutL d.toNat q).getD i default = c := by rw [List.getD_eq_getElem?_getD, hc]; rfl
        have e : S51_0 p q d (v, (i : Int)) = .inl (v ++ [betS p c d], ((i + 1 : Nat) : Int)) := by
          simp only [S51_0]
          rw [hL, decide_eq_true (show ((i : Nat) : Int) < ((cutL d.toNat q).length : Nat) by omega), cond_true, Int.toNat_natCast, hg, bet_r h1 ((cutL_in (vp_ok h2).1 hd hm).mono (by omega)) hd]; rfl
        rw [loopF_inl e, ih (i + 1) n _ (by rw [← List.drop_drop, hdr]; rfl) (by omega) (by simp only [List.length_cons] at hn; omega)]
        simp only [List.map_cons, List.append_assoc, List.singleton_append]
    show loopF (S51_0 p q d) _ ([], ((0 : Nat) : Int)) = _
    rw [key (cutL d.toNat q) 0 _ [] rfl (Nat.zero_le _) (by rw [hL]; omega), List.nil_append]
    exact meanL_r (mutL_ok h1 hd) (cnt_in d) (mutL_len hd)
  · rw [if_neg h, bne_iff_ne.2 h, cond_true]

end Go.Proofs.YthpgabaeefifbaaGreat

namespace Go.Proofs.YthpgabaeefifbaaGreat
open Go.Proofs Go.Aw Go.RowKit
set_option maxRecDepth 100000
set_option linter.unusedVariables false
set_option linter.unusedSimpArgs false

def F81 (a0 : Int) : Int :=
  (if (a0 : Int) < (W (0 - a0)) then (W (0 - a0)) else a0)

theorem C81 (a0 : Int) : Con Tryz.prog 81 [(iv a0)] [] (iv (F81 a0)) [] := by
  refine con_s Tryz.func81 (by kernel_rfl) fun cx hcx => ?_
  have e := Eq.refl (F81 a0); conv at e => rhs; simp only [F81]
  rw [e]
  exact rt [] [] [] hcx (by kernel_rfl)

def F36 (a0 : Int × Int × Int) (a1 : Int) : Bool :=
  (bif (decide (((F81 a0.1) : Int) ≤ a1)) then
   (bif (decide (((F81 a0.2.1) : Int) ≤ a1)) then
    (bif (decide (((F81 a0.2.2) : Int) ≤ a1)) then
     (bif (decide ((a0.1 : Int) ≥ (W (0 - a1)))) then
      (bif (decide ((a0.2.1 : Int) ≥ (W (0 - a1)))) then
       (decide ((a0.2.2 : Int) ≥ (W (0 - a1))))
      else
       false)
     else
      false)
    else
     false)
   else
    false)
  else
   false)

theorem C36 (a0 : Int × Int × Int) (a1 : Int) : Con Tryz.prog 36 [(.a (k3 a0)), (iv a1)] [] (.v (.bool (F36 a0 a1))) [] := by
  refine con_s Tryz.func36 (by kernel_rfl) fun cx hcx => ?_
  let t0 : List (St Tryz.prog) := [.c [] (C81 a0.1)]
  cases h0 : (decide (((F81 a0.1) : Int) ≤ a1)) with
  | true =>
   have q0 := of_decide_eq_true h0
   let t1 : List (St Tryz.prog) := (t0 ++ [.d h0, .c [] (C81 a0.2.1)])
   cases h1 : (decide (((F81 a0.2.1) : Int) ≤ a1)) with
   | true =>
    have q1 := of_decide_eq_true h1
    let t2 : List (St Tryz.prog) := (t1 ++ [.d h1, .c [] (C81 a0.2.2)])
    cases h2 : (decide (((F81 a0.2.2) : Int) ≤ a1)) with
    | true =>
     have q2 := of_decide_eq_true h2
     let t3 : List (St Tryz.prog) := (t2 ++ [.d h2])
     cases h3 : (decide ((a0.1 : Int) ≥ (W (0 - a1)))) with
     | true =>
      have q3 := of_decide_eq_true h3
      let t4 : List (St Tryz.prog) := (t3 ++ [.d h3])
      cases h4 : (decide ((a0.2.1 : Int) ≥ (W (0 - a1)))) with
      | true =>
       have q4 := of_decide_eq_true h4
       have e := Eq.refl (F36 a0 a1); conv at e => rhs; simp only [F36, h0, h1, h2, h3, h4, cond_true, cond_false]
       rw [e]
       exact rt (t4 ++ [.d h4]) [] [] hcx (by kernel_rfl)
      | false =>
       have q4 := of_decide_eq_false h4
       have e := Eq.refl (F36 a0 a1); conv at e => rhs; simp only [F36, h0, h1, h2, h3, h4, cond_true, cond_false]
       rw [e]
       exact rt (t4 ++ [.d h4]) [] [] hcx (by kernel_rfl)
     | false =>
      have q3 := of_decide_eq_false h3
      have e := Eq.refl (F36 a0 a1); conv at e => rhs; simp only [F36, h0, h1, h2, h3, cond_true, cond_false]
      rw [e]
      exact rt (t3 ++ [.d h3]) [] [] hcx (by kernel_rfl)
    | false =>
     have q2 := of_decide_eq_false h2
     have e := Eq.refl (F36 a0 a1); conv at e => rhs; simp only [F36, h0, h1, h2, cond_true, cond_false]
     rw [e]
     exact rt (t2 ++ [.d h2]) [] [] hcx (by kernel_rfl)
   | false =>
    have q1 := of_decide_eq_false h1
    have e := Eq.refl (F36 a0 a1); conv at e => rhs; simp only [F36, h0, h1, cond_true, cond_false]
    rw [e]
    exact rt (t1 ++ [.d h1]) [] [] hcx (by kernel_rfl)
  | false =>
   have q0 := of_decide_eq_false h0
   have e := Eq.refl (F36 a0 a1); conv at e => rhs; simp only [F36, h0, cond_true, cond_false]
   rw [e]
   exact rt (t0 ++ [.d h0]) [] [] hcx (by kernel_rfl)

def F37 (a0 : Int × Int × Int) : Int :=
  (W ((W ((W (a0.1 * a0.1)) + (W (a0.2.1 * a0.2.1)))) + (W (a0.2.2 * a0.2.2))))

theorem C37 (a0 : Int × Int × Int) : Con Tryz.prog 37 [(.a (k3 a0))] [] (iv (F37 a0)) [] := by
  refine con_s Tryz.func37 (by kernel_rfl) fun cx hcx => ?_
  have e := Eq.refl (F37 a0); conv at e => rhs; simp only [F37]
  rw [e]
  exact rt [] [] [] hcx (by kernel_rfl)

def F38 (a0 : Int × Int × Int) (a1 : Int × Int × Int) : Int × Int × Int :=
  ((W (a0.1 - a1.1)), (W (a0.2.1 - a1.2.1)), (W (a0.2.2 - a1.2.2)))

theorem C38 (a0 : Int × Int × Int) (a1 : Int × Int × Int) : Con Tryz.prog 38 [(.a (k3 a0)), (.a (k3 a1))] [] (.a (k3 (F38 a0 a1))) [] := by
  refine con_s Tryz.func38 (by kernel_rfl) fun cx hcx => ?_
  have e := Eq.refl (F38 a0 a1); conv at e => rhs; simp only [F38]
  rw [e]
  exact rt [] [] [] hcx (by kernel_rfl)

end Go.Proofs.YthpgabaeefifbaaGreat

namespace Go.Proofs.YthpgabaeefifbaaGreat
open Go.Proofs Go.Aw Go.RowKit
set_option maxRecDepth 100000
set_option linter.unusedVariables false
set_option linter.unusedSimpArgs false

/-! ### Sound: what the small functions say -/
/-! distances -/
/-! what is asked -/
/-! how far sound goes -/
end Go.Proofs.YthpgabaeefifbaaGreat

namespace Go.Proofs.YthpgabaeefifbaaGreat
open Go.Proofs Go.Aw Go.RowKit
set_option maxRecDepth 100000
set_option linter.unusedVariables false
set_option linter.unusedSimpArgs false

end Go.Proofs.YthpgabaeefifbaaGreat

namespace Go.Proofs.YthpgabaeefifbaaGreat
open Go.Proofs Go.Aw Go.RowKit
set_option maxRecDepth 100000
set_option linter.unusedVariables false
set_option linter.unusedSimpArgs false

end Go.Proofs.YthpgabaeefifbaaGreat

namespace Go.Proofs.YthpgabaeefifbaaGreat
open Go.Proofs Go.Aw Go.RowKit
set_option maxRecDepth 100000
set_option linter.unusedVariables false
set_option linter.unusedSimpArgs false

end Go.Proofs.YthpgabaeefifbaaGreat

namespace Go.Proofs.YthpgabaeefifbaaGreat
open Go.Proofs Go.Aw Go.RowKit
set_option maxRecDepth 100000
set_option linter.unusedVariables false
set_option linter.unusedSimpArgs false

/-! ### Travels -/
section
variable {n s t : Int}
end
/-! ### From when to when -/
end Go.Proofs.YthpgabaeefifbaaGreat

namespace Go.Proofs.YthpgabaeefifbaaGreat
open Go.Proofs Go.Aw Go.RowKit
set_option maxRecDepth 100000
set_option linter.unusedVariables false
set_option linter.unusedSimpArgs false

/-! ### What is heard of a pulse -/
/-! a list that is filled, or left at the first error -/
def shs {α β : Type} (g : α → β × Int) : List α → List β → List β ⊕ Int
  | [], l => .inl l
  | c :: m, l => if (g c).2 = 0 then shs g m (l ++ [(g c).1]) else .inr (g c).2
def out8 {β R : Type} (G : List β → R) (E : Int → R) : List β ⊕ Int → R
  | .inl m => G m
  | .inr e => E e
theorem shs_loopF {α β R : Type} [Inhabited R] {g : α → β × Int} {S : List β × Int → (List β × Int) ⊕ R} {G : List β → R} {E : Int → R} {L : List α}
    (hS : ∀ (i : Nat) (c : α), L[i]? = some c → ∀ l : List β, S (l, (i : Int)) = bif ((g c).2 != 0) then .inr (E (g c).2) else .inl (l ++ [(g c).1], ((i + 1 : Nat) : Int)))
    (hE : ∀ l : List β, S (l, (L.length : Int)) = .inr (G l)) :
    ∀ (k : List α) (i n : Nat) (l : List β), L.drop i = k → i ≤ L.length → k.length < n → loopF S n (l, (i : Int)) = out8 G E (shs g k l)
  | [], i, n, l, hd, hi', hn => by
    have : i = L.length := by have := List.drop_eq_nil_iff.1 hd; omega
    obtain ⟨n, rfl⟩ : ∃ m, n = m + 1 := ⟨n - 1, by simp only [List.length_nil] at hn; omega⟩
    subst this
    rw [loopF_inr (hE _)]; rfl
  | c :: k, i, n, l, hd, hi', hn => by
    have hc : L[i]? = some c := by
      have : (L.drop i)[0]? = some c := by rw [hd]; rfl
      simpa using this
    obtain ⟨hlt, hce⟩ := List.getElem?_eq_some_iff.1 hc
    obtain ⟨n, rfl⟩ : ∃ m, n = m + 1 := ⟨n - 1, by omega⟩
    have h1 := hS i c hc l
    unfold shs
    by_cases h : (g c).2 = 0
    · rw [h] at h1
      rw [loopF_inl h1, if_pos h]
      exact shs_loopF hS hE k (i + 1) n _ (by rw [← List.drop_drop, hd]; rfl) (by omega) (by simp only [List.length_cons] at hn; omega)
    · rw [bne_iff_ne.2 h, cond_true] at h1
      rw [loopF_inr h1, if_neg h]; rfl
theorem shs_inl {α β : Type} {g : α → β × Int} : ∀ {k : List α} {l m : List β}, shs g k l = .inl m → m = l ++ k.map (fun c => (g c).1) ∧ ∀ c ∈ k, (g c).2 = 0
  | [], l, m, h => by simp only [shs] at h; cases h; simp
  | c :: k, l, m, h => by
    unfold shs at h
    split at h
    · rename_i h0
      obtain ⟨h1, h2⟩ := shs_inl h
      refine ⟨by rw [h1]; simp, fun x hx => ?_⟩
      rcases List.mem_cons.1 hx with rfl | hx
      · exact h0
      · exact h2 x hx
    · cases h
/-! a pulse in a tick -/
end Go.Proofs.YthpgabaeefifbaaGreat

namespace Go.Proofs.YthpgabaeefifbaaGreat
open Go.Proofs Go.Aw Go.RowKit
set_option maxRecDepth 100000
set_option linter.unusedVariables false
set_option linter.unusedSimpArgs false

/-! ### Slices of flat elements as arguments -/
open Go.ChangeShapes Go.WideShapes Go.ChangeAt
section
variable {H : Type} {enc : TypeId × Value → H} {P : Program} {w : World}
def SliceOf (w : World) (es : Nat) (v : Value) (nss : List (List Int)) : Prop :=
  (∀ ns ∈ nss, ns.length = es) ∧ nss.length ≤ 9223372036854775807 ∧
  ((v = .slice none 0 0 ∧ nss = []) ∨ ∃ b o cap, v = .slice (some ⟨b, o, none⟩) nss.length cap ∧ nss.length ≤ cap ∧ ∀ (i : Nat) (x : Value), ((nss.flatten).map (Value.int .i64))[i]? = some x → w.cell? ⟨b, o + i, none⟩ = some x)
theorem flat_cells {es b : Nat} : ∀ (nss : List (List Int)) (o : Nat), (∀ (j : Nat) (ns : List Int), nss[j]? = some ns → ns.length = es ∧ ∀ (q : Nat) (x : Value), (ns.map (Value.int .i64))[q]? = some x → w.cell? ⟨b, o + j * es + q, none⟩ = some x) →
    ∀ (i : Nat) (x : Value), ((nss.flatten).map (Value.int .i64))[i]? = some x → w.cell? ⟨b, o + i, none⟩ = some x
  | [], o, _, i, x, hi => by simp at hi
  | ns :: l, o, h, i, x, hi => by
    obtain ⟨h1, h2⟩ := h 0 ns rfl
    rw [List.flatten_cons, List.map_append] at hi
    by_cases hlt : i < ns.length
    · rw [List.getElem?_append_left (by simpa using hlt)] at hi
      have := h2 i x hi
      simpa using this
    · rw [List.getElem?_append_right (by simpa using hlt)] at hi
      have := flat_cells l (o + es) (fun j ms hj => ⟨(h (j + 1) ms hj).1, fun q y hq => by
        have := (h (j + 1) ms hj).2 q y hq
        rw [show o + es + j * es + q = o + (j + 1) * es + q by rw [Nat.add_mul]; omega]; exact this⟩) (i - es) x (by simpa [h1] using hi)
      rw [show o + es + (i - es) = o + i by omega] at this; exact this
theorem open_list {r : Reach} {b0 : Nat} {t e : TypeId} {es : Nat} {v : Value} {d : DataW H} {ps : List MemPlace} (ht : P.underlying t = some (.slice e)) (hf : flatB P 6 e = true) (hes : P.cellsOf e = es)
    (hval : Value.okWide P w r b0 t v) (hd : DataW.Trod enc P w 0 (fun _ => true) true t v d ps) : (∃ nss, SliceOf w es v nss) ∧ ∀ x ∈ ps, x.block < w.heap.size := by
  obtain ⟨fuel, hx⟩ := hd
  refine ⟨?_, DataW.trod_lt fuel t _ _ hx⟩
  obtain ⟨a, len, cap, rfl⟩ := okWide_slice ht hval
  rcases Go.Deep.open_slice ht hx with ⟨hc, _⟩ | ⟨a', len', cap', m, n, D, Pl, hc, hb, hl, hm, hmm, _, hall⟩
  · simp only [Value.cells, List.cons.injEq, and_true] at hc
    exact ⟨[], fun ns h => by simp at h, by simp, .inl ⟨hc, rfl⟩⟩
  · simp only [Value.cells, List.cons.injEq, and_true, Value.slice.injEq] at hc
    obtain ⟨rfl, rfl, rfl⟩ := hc
    simp only [Value.okWide, ht, Cell.okWide, Cell.ok, World.has] at hval
    have hsp : a'.spot = none := hval.2.2.2.1
    obtain ⟨b, o, sp⟩ := a'
    simp only at hsp
    subst hsp
    simp only [if_true] at hmm
    obtain ⟨N, hN⟩ := Go.Deep.choose_lt (α := List Int) (p := fun i ns => ns.length = es ∧ ∀ (q : Nat) (x : Value), (ns.map (Value.int .i64))[q]? = some x → w.cell? ⟨b, o + i * es + q, none⟩ = some x) (n := len) (fun i hi => by
      obtain ⟨cs', h1, h2⟩ := hall i (by omega)
      obtain ⟨_, ns, rfl⟩ := flat_trod 6 e n cs' _ hf h2
      obtain ⟨_, hlen, hcell⟩ := World.cells?_some h1
      rw [hes] at hlen hcell
      refine ⟨ns, by simpa using hlen, fun q x hq => ?_⟩
      have hq' := (List.getElem?_eq_some_iff.1 hq).1
      have := hcell q (by omega)
      rw [Go.Aw.add_eq, Go.Aw.add_eq] at this
      rw [this, hq])
    refine ⟨(List.range len).map N, fun ns h => ?_, ?_, .inr ⟨b, o, cap, ?_, ?_, ?_⟩⟩
    · obtain ⟨i, hi, rfl⟩ := List.mem_map.1 h
      exact (hN i (by simpa using hi)).1
    · have : maxLen = 9223372036854775807 := rfl
      simp; omega
    · simp
    · simpa using hl
    · refine flat_cells (es := es) _ o (fun j ns hj => ?_)
      have hjl := (List.getElem?_eq_some_iff.1 hj).1
      simp only [List.length_map, List.length_range] at hjl
      have : N j = ns := by simpa [hjl] using hj
      subst this
      exact hN j hjl
def rho (es : Nat) : Value → Option (Nat × Nat × Nat)
  | .slice (some a) _ cap => some (a.block, a.off, cap * es)
  | _ => none
theorem slice_rel {es : Nat} {v : Value} {nss : List (List Int)} {ρ : Env} {k : Nat} (h : SliceOf w es v nss) (hk : ρ k = rho es v) : Rel ρ (.s k 0 nss.length es) v := by
  obtain ⟨h1, h2, ⟨rfl, rfl⟩ | ⟨b, o, cap, rfl, h3, h4⟩⟩ := h
  · simp only [Rel]; exact .inl ⟨hk, rfl, trivial⟩
  · simp only [Rel]; exact .inr ⟨b, o, cap * es, cap, 0, hk, rfl, h3, by omega, fun _ => rfl⟩
theorem flatten_len {es : Nat} : ∀ {nss : List (List Int)}, (∀ ns ∈ nss, ns.length = es) → nss.flatten.length = nss.length * es
  | [], _ => by simp
  | ns :: l, h => by
    rw [List.flatten_cons, List.length_append, flatten_len (fun m hm => h m (List.mem_cons_of_mem _ hm)), h ns List.mem_cons_self, List.length_cons, Nat.add_mul]; omega
theorem slice_brep {es : Nat} {v : Value} {nss : List (List Int)} {ρ : Env} {k : Nat} {M : Nat → Prop} (h : SliceOf w es v nss) (hk : ρ k = rho es v) (hM : ∀ b, M b → w.heap.size ≤ b) : BRep ρ M w k (.live false true ((nss.flatten).map iv)) := by
  obtain ⟨h1, h2, ⟨rfl, rfl⟩ | ⟨b, o, cap, rfl, h3, h4⟩⟩ := h
  · exact .inl ⟨hk, rfl⟩
  · have hlen := flatten_len h1
    refine .inr ⟨b, o, cap * es, (nss.flatten).map (Value.int .i64), hk, ⟨?_, fun hne hm => ?_⟩, rels_iv _, h4⟩
    · rw [List.length_map, hlen]; exact Nat.mul_le_mul_right _ h3
    · have hb := hM b hm
      obtain ⟨x, hx⟩ := List.exists_mem_of_ne_nil _ hne
      obtain ⟨i, hi⟩ := List.getElem?_of_mem hx
      have := World.block_lt_of_cell? w ⟨b, o + i, none⟩ (h4 i x hi)
      exact absurd this (Nat.not_lt_of_le hb)
theorem flat_mk {α : Type} {c : α → List SV} {f : List Int → α} {es : Nat} (hc : ∀ ns : List Int, ns.length = es → c (f ns) = ns.map iv) : ∀ {nss : List (List Int)}, (∀ ns ∈ nss, ns.length = es) → flat c (nss.map f) = (nss.flatten).map iv
  | [], _ => rfl
  | ns :: l, h => by
    have := flat_mk hc (nss := l) (fun m hm => h m (List.mem_cons_of_mem _ hm))
    unfold flat at *
    rw [List.map_cons, List.flatMap_cons, this, hc ns (h ns List.mem_cons_self), List.flatten_cons, List.map_append]
end
theorem plain_ivs : ∀ ns : List Int, Plain (ns.map iv)
  | [] => fun k hk => by simp [SV.hasl] at hk
  | n :: l => fun k hk => by
    simp only [List.map_cons, SV.hasl] at hk
    rcases hk with hk | hk
    · simp [iv, SV.has] at hk
    · exact plain_ivs l k hk
theorem law_callsL {P : Program} {f : Nat} {args : List SV} {vs : List Value} {x : Value} {bs : List BK} (hc : Con P f args bs (.v x) []) (ρ : Env) {W : World} (hr : Rels ρ args vs) (hown : ∀ i, ¬ (bs.getD i .un).own)
    (hb : (∀ b, (callCx ρ W bs).mine b → W.heap.size ≤ b) → ∀ i, BRep ρ (callCx ρ W bs).mine W i (bs.getD i .un)) (hpl : ∀ i, (bs.getD i .un).pl) (hnf : ∀ b, ρ.fz b = none) :
    Calls P f vs.toArray W fun e W' => e = .returned x ∧ Below W.heap.size W W' := by
  have hM : ∀ b, (callCx ρ W bs).mine b → W.heap.size ≤ b := by
    rintro b (h | ⟨i, n, hi, _⟩)
    · exact h
    · exact absurd hi (hown i)
  refine (hc.2 ρ W vs hr (hb hM) hpl (fun i j b n b' n' _ h => absurd h (hown i)) (fun b o h => by rw [hnf b] at h; cases h)).mono fun e W' h => ?_
  obtain ⟨ρ', v, rfl, _, hv, hk, _⟩ := h
  refine ⟨by rw [show v = x from hv], hk.os, hk.tape, hk.output, hk.size, fun k hk' => hk.block k hk' ?_⟩
  rintro ⟨i, n, hi, _⟩
  exact hown i hi
end Go.Proofs.YthpgabaeefifbaaGreat

namespace Go.Proofs.YthpgabaeefifbaaGreat
open Go.Proofs Go.Aw Go.RowKit
set_option maxRecDepth 100000
set_option linter.unusedVariables false
set_option linter.unusedSimpArgs false

/-! ### Sums of lists of spans -/
theorem flat_lenc {α : Type} {c : α → List SV} {es : Nat} (hc : ∀ x, (c x).length = es) (l : List α) : (flat c l).length = l.length * es := flat_length hc l
def okw (v : Int × Int) (n : Nat) : Prop := (-4611686018427387904 + 1099511627776 * n ≤ v.1 ∧ v.1 + 1099511627776 * n ≤ 4611686018427387904) ∧ (-4611686018427387904 + 1099511627776 * n ≤ v.2 ∧ v.2 + 1099511627776 * n ≤ 4611686018427387904)
theorem okw_next {v a : Int × Int} {n : Nat} (h : okw v (n + 1)) (ha : vs a) : okw (v.1 + a.1, v.2 + a.2) n := by unfold okw vs at *; simp only; omega
theorem okw_W {v : Int × Int} {n : Nat} (h : okw v n) : W v.1 = v.1 ∧ W v.2 = v.2 := by unfold okw at h; exact ⟨W_eq (by omega) (by omega), W_eq (by omega) (by omega)⟩
theorem okw_0 {n : Nat} (h : n ≤ 10000) : okw (0, 0) n := by unfold okw; simp only; omega
theorem sumw_loopF {R : Type} [Inhabited R] {S : Int × Int × Int → (Int × Int × Int) ⊕ R} {G : Int × Int → R} {L : List (Int × Int)} (hl : ∀ a ∈ L, vs a)
    (hS : ∀ (i : Nat) (a : Int × Int), L[i]? = some a → ∀ v1 v2 : Int, S (v1, v2, (i : Int)) = .inl (W (v1 + a.1), W (v2 + a.2), ((i + 1 : Nat) : Int)))
    (hE : ∀ v1 v2 : Int, S (v1, v2, (L.length : Int)) = .inr (G (v1, v2))) :
    ∀ (l : List (Int × Int)) (i n : Nat) (v : Int × Int), L.drop i = l → i ≤ L.length → l.length < n → okw v l.length → loopF S n (v.1, v.2, (i : Int)) = G (sums l v) := by
  intro l
  induction l with
  | nil =>
    intro i n v hd hi' hn h
    have : i = L.length := by have := List.drop_eq_nil_iff.1 hd; omega
    obtain ⟨n, rfl⟩ : ∃ m, n = m + 1 := ⟨n - 1, by simp only [List.length_nil] at hn; omega⟩
    subst this
    rw [loopF_inr (hE _ _)]; rfl
  | cons c l ih =>
    intro i n v hd hi' hn h
    have hc : L[i]? = some c := by
      have : (L.drop i)[0]? = some c := by rw [hd]; rfl
      simpa using this
    obtain ⟨hlt, hce⟩ := List.getElem?_eq_some_iff.1 hc
    obtain ⟨n, rfl⟩ : ∃ m, n = m + 1 := ⟨n - 1, by omega⟩
    have h1 : okw (v.1 + c.1, v.2 + c.2) l.length := okw_next h (hl c (hce ▸ List.getElem_mem hlt))
    have hw := okw_W h1
    simp only at hw
    rw [loopF_inl (hS i c hc v.1 v.2), hw.1, hw.2]
    exact ih (i + 1) n (v.1 + c.1, v.2 + c.2) (by rw [← List.drop_drop, hd]; rfl) (by omega) (by simp only [List.length_cons] at hn; omega) h1
section
variable {l : List (Int × Int)}
theorem vs_val {a : Int × Int} (h : vs a) : F113 a = true := val_f (a := a.1) (b := a.2) h.1 h.2.1 h.2.2
theorem chkW (hl : ∀ a ∈ l, vs a) : F154_L l = 0 := by
  have key : ∀ (m : List (Int × Int)) (i n : Nat), l.drop i = m → i ≤ l.length → m.length < n → loopF (S154_L_0 l) n (i : Int) = 0 := by
    intro m
    induction m with
    | nil =>
      intro i n hd hi hn
      have : i = l.length := by have := List.drop_eq_nil_iff.1 hd; omega
      obtain ⟨n, rfl⟩ : ∃ m, n = m + 1 := ⟨n - 1, by simp only [List.length_nil] at hn; omega⟩
      subst this
      refine loopF_inr ?_
      simp only [S154_L_0]
      rw [decide_eq_false (Int.lt_irrefl _), cond_false]
    | cons c m ih =>
      intro i n hd hi hn
      have hc : l[i]? = some c := by
        have : (l.drop i)[0]? = some c := by rw [hd]; rfl
        simpa using this
      obtain ⟨hlt, hce⟩ := List.getElem?_eq_some_iff.1 hc
      obtain ⟨n, rfl⟩ : ∃ m, n = m + 1 := ⟨n - 1, by omega⟩
      have hg : l.getD i default = c := by rw [List.getD_eq_getElem?_getD, hc]; rfl
      have e : S154_L_0 l (i : Int) = .inl ((i + 1 : Nat) : Int) := by
        simp only [S154_L_0]
        rw [decide_eq_true (show ((i : Nat) : Int) < (l.length : Nat) by omega), cond_true, Int.toNat_natCast, hg, vs_val (hl c (hce ▸ List.getElem_mem hlt))]; rfl
      rw [loopF_inl e]
      exact ih (i + 1) n (by rw [← List.drop_drop, hd]; rfl) (by omega) (by simp only [List.length_cons] at hn; omega)
  unfold F154_L
  exact key l 0 _ rfl (Nat.zero_le _) (by omega)
theorem totw_f (hl : ∀ a ∈ l, vs a) (hn : l.length ≤ 10000) : F139_L l = ((sums l (0, 0)).1, (sums l (0, 0)).2, 0) := by
  unfold F139_L
  rw [decide_eq_false (by omega), cond_false, chkW hl]
  show loopF _ _ (((0, 0) : Int × Int).1, ((0, 0) : Int × Int).2, ((0 : Nat) : Int)) = _
  refine sumw_loopF (G := fun v => (v.1, v.2, 0)) hl (fun i a hi v1 v2 => ?_) (fun v1 v2 => ?_) l 0 _ (0, 0) rfl (Nat.zero_le _) (by omega) (okw_0 hn)
  · obtain ⟨hlt, hce⟩ := List.getElem?_eq_some_iff.1 hi
    have hg : l.getD i default = a := by rw [List.getD_eq_getElem?_getD, hi]; rfl
    simp only [S139_L_0]
    rw [decide_eq_true (show ((i : Nat) : Int) < (l.length : Nat) by omega), cond_true, Int.toNat_natCast, hg]; rfl
  · simp only [S139_L_0]
    rw [decide_eq_false (Int.lt_irrefl _), cond_false]
theorem totw_r (hl : ∀ a ∈ l, vs a) (hn : l.length ≤ 10000) : F97_L l = ((sums l (0, 0)).1, (sums l (0, 0)).2, 0) := by
  unfold F97_L
  rw [decide_eq_false (by omega), cond_false]
  show loopF _ _ (((0, 0) : Int × Int).1, ((0, 0) : Int × Int).2, ((0 : Nat) : Int)) = _
  refine sumw_loopF (G := fun v => (v.1, v.2, 0)) hl (fun i a hi v1 v2 => ?_) (fun v1 v2 => ?_) l 0 _ (0, 0) rfl (Nat.zero_le _) (by omega) (okw_0 hn)
  · obtain ⟨hlt, hce⟩ := List.getElem?_eq_some_iff.1 hi
    have hg : l.getD i default = a := by rw [List.getD_eq_getElem?_getD, hi]; rfl
    simp only [S97_L_0]
    rw [decide_eq_true (show ((i : Nat) : Int) < (l.length : Nat) by omega), cond_true, Int.toNat_natCast, hg, show F95 a = true from vs_val (hl a (hce ▸ List.getElem_mem hlt))]; rfl
  · simp only [S97_L_0]
    rw [decide_eq_false (Int.lt_irrefl _), cond_false]
noncomputable def sumV (l : List (Int × Int)) : (Int × Int) × Int := F74 (sums l (0, 0)).1 (sums l (0, 0)).2
theorem Sum_f (hl : ∀ a ∈ l, vs a) (hn : l.length ≤ 10000) : F126_L l = sumV l := by
  unfold F126_L
  rw [totw_f hl hn]; rfl
theorem Sum_r (hl : ∀ a ∈ l, vs a) (hn : l.length ≤ 10000) : F48_L l = sumV l := by
  unfold F48_L
  rw [totw_r hl hn]; rfl
end
theorem sumV_0 {l : List (Int × Int)} (h : (sumV l).2 = 0) : sumV l = (sums l (0, 0), 0) ∧ vs (sums l (0, 0)) := by
  unfold sumV at *
  rcases res_cases (sums l (0, 0)).1 (sums l (0, 0)).2 with ⟨h1, h2⟩ | h1
  · exact ⟨h1, h2⟩
  · rw [h1] at h; exact absurd h (by decide)
theorem scale_vs {a : Int × Int} {n : Int} (h : (F125 a n).2 = 0) : vs (F125 a n).1 := by
  have h0 := h
  unfold F125 at h0
  cases h1 : ((F154_1 a : Int) != 0) with
  | true => rw [h1, cond_true] at h0; exact absurd h0 (bne_iff_ne.1 h1)
  | false =>
    rw [h1, cond_false] at h0
    cases h2 : (!(F155 n)) with
    | true => rw [h2, cond_true] at h0; exact absurd h0 (by decide)
    | false =>
      obtain ⟨x, y, e⟩ : ∃ x y, F125 a n = F74 x y := ⟨_, _, by unfold F125; rw [h1, cond_false, h2, cond_false]⟩
      rw [e] at h ⊢
      rcases res_cases x y with ⟨e1, e2⟩ | e1
      · rw [e1]; exact e2
      · rw [e1] at h; exact absurd h (by decide)
theorem shs_inr {α β : Type} {g : α → β × Int} : ∀ {k : List α} {l : List β} {e : Int}, shs g k l = .inr e → e ≠ 0
  | [], l, e, h => by simp only [shs] at h; cases h
  | c :: k, l, e, h => by
    unfold shs at h
    split at h
    · exact shs_inr h
    · rename_i h0; cases h; exact h0

end Go.Proofs.YthpgabaeefifbaaGreat

namespace Go.Proofs.YthpgabaeefifbaaGreat
open Go.Proofs Go.Aw Go.RowKit
set_option maxRecDepth 100000
set_option linter.unusedVariables false
set_option linter.unusedSimpArgs false

theorem flat_set {α : Type} {c : α → List SV} {es : Nat} (hc : ∀ x, (c x).length = es) {L : List α} {i o : Nat} {xs : List SV} {d y : α} (hi : i < L.length) (ho : o + xs.length ≤ es) (hy : c y = splice (c (L.getD i d)) o xs) :
    splice (flat c L) (0 + i * es + o) xs = flat c (L.set i y) := by
  induction L generalizing i with
  | nil => simp at hi
  | cons x L ih =>
    cases i with
    | zero =>
      have hy' : c y = splice (c x) o xs := hy
      have hx := hc x
      simp only [flat, List.flatMap_cons, List.set_cons_zero, hy']
      unfold splice
      simp only [Nat.zero_mul, Nat.zero_add]
      rw [List.take_append_of_le_length (by omega), List.drop_append_of_le_length (by omega)]
      simp [List.append_assoc]
    | succ i =>
      have h := ih (i := i) (by simpa using hi) hy
      have hx := hc x
      simp only [flat, List.flatMap_cons, List.set_cons_succ] at h ⊢
      rw [← h]
      unfold splice
      have e1 : 0 + (i + 1) * es + o = (c x).length + (0 + i * es + o) := by rw [hx, Nat.add_mul]; omega
      rw [e1, List.take_length_add_append, show (c x).length + (0 + i * es + o) + xs.length = (c x).length + (0 + i * es + o + xs.length) by omega, List.drop_length_add_append]
      simp [List.append_assoc]
theorem flat_setl {α : Type} {c : α → List SV} {es : Nat} (hc : ∀ x, (c x).length = es) {L : List α} {i o n : Nat} (hi : i < L.length) (ho : o + n ≤ es) : 0 + i * es + o + n ≤ (flat c L).length := by
  rw [flat_length hc]
  have := Nat.mul_le_mul_right es (show i + 1 ≤ L.length by omega)
  rw [Nat.add_mul] at this
  omega

end Go.Proofs.YthpgabaeefifbaaGreat

namespace Go.Proofs.YthpgabaeefifbaaGreat
open Go.Proofs Go.Aw Go.RowKit
set_option maxRecDepth 100000
set_option linter.unusedVariables false
set_option linter.unusedSimpArgs false

/-! ### Arguments of mixed cells: numbers, truth values, slices of flat elements -/
open Go.ChangeShapes Go.WideShapes Go.ChangeAt
inductive CK where
  | i | b | s (es : Nat)
deriving DecidableEq
def kindsB (P : Program) : Nat → TypeId → Option (List CK)
  | 0, _ => none
  | k + 1, t => match P.underlying t with
    | some (.int .i64) => some [.i]
    | some .bool => some [.b]
    | some (.slice e) => bif flatB P 6 e then some [.s (P.cellsOf e)] else none
    | some (.struct fs) => fs.toList.foldr (fun f r o => bif f.offset == o then match kindsB P k f.type with
        | some a => bif a.length == P.cellsOf f.type then (r (o + P.cellsOf f.type)).map (a ++ ·) else none
        | none => none else none) (fun o => bif o == P.cellsOf t then some [] else none) 0
    | _ => none
section
variable {H : Type} {enc : TypeId × Value → H} {P : Program} {w : World}
theorem open_listC {e : TypeId} {t : TypeId} {v : Value} {fuel : Nat} {x : DataW H × List MemPlace} (ht : P.underlying t = some (.slice e)) (hf : flatB P 6 e = true)
    (hsp : ∀ a len cap, v = .slice (some a) len cap → a.spot = none) (hx : DataW.trod enc P w 0 (fun _ => true) true fuel t [v] = some x) : ∃ nss, SliceOf w (P.cellsOf e) v nss := by
  rcases Go.Deep.open_slice ht hx with ⟨hc, _⟩ | ⟨a', len', cap', m, n, D, Pl, hc, hb, hl, hm, hmm, _, hall⟩
  · simp only [List.cons.injEq, and_true] at hc
    exact ⟨[], fun ns h => by simp at h, by simp, .inl ⟨hc, rfl⟩⟩
  · simp only [List.cons.injEq, and_true] at hc
    subst hc
    have hsp := hsp a' len' cap' rfl
    obtain ⟨b, o, sp⟩ := a'
    simp only at hsp
    subst hsp
    simp only [if_true] at hmm
    obtain ⟨N, hN⟩ := Go.Deep.choose_lt (α := List Int) (p := fun i ns => ns.length = P.cellsOf e ∧ ∀ (q : Nat) (x : Value), (ns.map (Value.int .i64))[q]? = some x → w.cell? ⟨b, o + i * P.cellsOf e + q, none⟩ = some x) (n := len') (fun i hi => by
      obtain ⟨cs', h1, h2⟩ := hall i (by omega)
      obtain ⟨_, ns, rfl⟩ := flat_trod 6 e n cs' _ hf h2
      obtain ⟨_, hlen, hcell⟩ := World.cells?_some h1
      refine ⟨ns, by simpa using hlen, fun q x hq => ?_⟩
      have hq' := (List.getElem?_eq_some_iff.1 hq).1
      have := hcell q (by rw [← hlen]; omega)
      rw [Go.Aw.add_eq, Go.Aw.add_eq] at this
      rw [this, hq])
    refine ⟨(List.range len').map N, fun ns h => ?_, ?_, .inr ⟨b, o, cap', ?_, ?_, ?_⟩⟩
    · obtain ⟨i, hi, rfl⟩ := List.mem_map.1 h
      exact (hN i (by simpa using hi)).1
    · have : maxLen = 9223372036854775807 := rfl
      simp; omega
    · simp
    · simpa using hl
    · refine flat_cells (es := P.cellsOf e) _ o (fun j ns hj => ?_)
      have hjl := (List.getElem?_eq_some_iff.1 hj).1
      simp only [List.length_map, List.length_range] at hjl
      have : N j = ns := by simpa [hjl] using hj
      subst this
      exact hN j hjl
def CellIs (w : World) : CK → Value → Prop
  | .i, v => ∃ n : Int, v = .int .i64 n
  | .b, v => ∃ x : Bool, v = .bool x
  | .s es, v => ∃ nss, SliceOf w es v nss
def CellsAre (w : World) : List CK → List Value → Prop
  | [], [] => True
  | k :: ks, v :: vs => CellIs w k v ∧ CellsAre w ks vs
  | _, _ => False
theorem CellsAre.app : ∀ {ks ks' : List CK} {vs vs' : List Value}, CellsAre w ks vs → CellsAre w ks' vs' → CellsAre w (ks ++ ks') (vs ++ vs')
  | [], _, [], _, _, h => h
  | [], _, _ :: _, _, h, _ => h.elim
  | _ :: _, _, [], _, h, _ => h.elim
  | _ :: _, _, _ :: _, _, ⟨h1, h2⟩, h => ⟨h1, CellsAre.app h2 h⟩
theorem kinds_trod : ∀ (k : Nat) (t : TypeId) (ks : List CK) (fuel : Nat) (cs : List Value) (x : DataW H × List MemPlace), kindsB P k t = some ks →
    (∀ v ∈ cs, ∀ a len cap, v = .slice (some a) len cap → a.spot = none) → DataW.trod enc P w 0 (fun _ => true) true fuel t cs = some x → CellsAre w ks cs
  | 0, _, _, _, _, _, h, _, _ => by simp [kindsB] at h
  | k + 1, t, ks, fuel, cs, x, h, hsp, hx => by
    unfold kindsB at h
    split at h
    · rename_i ht
      obtain ⟨n, rfl, rfl, _⟩ := DataW.trod_int ht hx
      obtain rfl : [CK.i] = ks := Option.some.inj h
      exact ⟨⟨n, rfl⟩, trivial⟩
    · rename_i ht
      obtain ⟨n, rfl, rfl⟩ := DataW.trod_bool ht hx
      obtain rfl : [CK.b] = ks := Option.some.inj h
      exact ⟨⟨n, rfl⟩, trivial⟩
    · rename_i e ht
      cases hf : flatB P 6 e with
      | false => rw [hf] at h; cases h
      | true =>
        rw [hf] at h
        obtain rfl : [CK.s (P.cellsOf e)] = ks := Option.some.inj h
        have : ∃ v, cs = [v] := by
          rcases Go.Deep.open_slice ht hx with ⟨hc, _⟩ | ⟨a', len', cap', m, n, D, Pl, hc, _⟩ <;> exact ⟨_, hc⟩
        obtain ⟨v, rfl⟩ := this
        exact ⟨open_listC ht hf (hsp v List.mem_cons_self) hx, trivial⟩
    · rename_i fs ht
      obtain ⟨xs, m, rfl, rfl, hl, hlen, hF⟩ := DataW.trod_struct ht hx
      have key : ∀ (l : List Field) (o : Nat) (ks : List CK),
          l.foldr (fun f r o => bif f.offset == o then match kindsB P k f.type with
            | some a => bif a.length == P.cellsOf f.type then (r (o + P.cellsOf f.type)).map (a ++ ·) else none
            | none => none else none) (fun o => bif o == P.cellsOf t then some [] else none) o = some ks →
          (∀ f ∈ l, ∃ y, DataW.trod enc P w 0 (fun _ => true) true m f.type ((cs.drop f.offset).take (P.cellsOf f.type)) = some y) → CellsAre w ks (cs.drop o) := by
        intro l
        induction l with
        | nil =>
          intro o ks h _
          simp only [List.foldr_nil] at h
          cases ho : o == P.cellsOf t with
          | false => rw [ho] at h; cases h
          | true =>
            rw [ho] at h
            obtain rfl : [] = ks := Option.some.inj h
            rw [beq_iff_eq.1 ho, ← hl, List.drop_length]; trivial
        | cons f l ih =>
          intro o ks h hy
          simp only [List.foldr_cons] at h
          cases ho : f.offset == o with
          | false => rw [ho] at h; cases h
          | true =>
            rw [ho] at h
            simp only [cond_true] at h
            split at h
            · rename_i a ha
              cases hc : a.length == P.cellsOf f.type with
              | false => rw [hc] at h; cases h
              | true =>
                rw [hc] at h
                simp only [cond_true, Option.map_eq_some_iff] at h
                obtain ⟨ks', h1, rfl⟩ := h
                obtain ⟨y, hy0⟩ := hy f List.mem_cons_self
                rw [beq_iff_eq.1 ho] at hy0
                have g1 := kinds_trod k f.type a m _ y ha (fun v hv => hsp v (List.mem_of_mem_drop (List.mem_of_mem_take hv))) hy0
                have g2 := ih _ _ h1 (fun f' hf' => hy f' (List.mem_cons_of_mem _ hf'))
                have := g1.app g2
                rwa [← List.drop_drop, List.take_append_drop] at this
            · cases h
      have := key fs.toList 0 ks h (fun f hf => by
        obtain ⟨i, hi⟩ := List.getElem?_of_mem hf
        have := hF i f (by simpa using hi)
        have hil : i < xs.length := by rw [hlen]; have := (List.getElem?_eq_some_iff.1 hi).1; simpa using this
        rw [List.getElem?_eq_getElem hil] at this
        exact ⟨_, this⟩)
      simpa using this
    · cases h
theorem cell_spot {r : Reach} {b0 : Nat} {u : TypeId} {a : Addr} {len cap : Nat} (h : Cell.okWide P w r b0 u (.slice (some a) len cap)) : a.spot = none := by
  unfold Cell.okWide at h
  split at h <;> try (exact h.elim)
  all_goals try (simp_all; done)
  unfold Cell.ok at h
  split at h <;> simp_all [World.has]
theorem open_kinds {r : Reach} {b0 : Nat} {t : TypeId} {fs : Array Field} {v : Value} {d : DataW H} {ps : List MemPlace} (ks : List CK) (ht : P.underlying t = some (.struct fs)) (hk : kindsB P 6 t = some ks)
    (hval : Value.okWide P w r b0 t v) (hd : DataW.Trod enc P w 0 (fun _ => true) true t v d ps) : (∃ cs, v = .agg cs.toArray ∧ CellsAre w ks cs) ∧ ∀ x ∈ ps, x.block < w.heap.size := by
  obtain ⟨fuel, hx⟩ := hd
  refine ⟨?_, DataW.trod_lt fuel t _ _ hx⟩
  simp only [Value.okWide, ht] at hval
  obtain ⟨cs, rfl, hs, ts, _, _, hall⟩ := hval
  refine ⟨cs.toList, by simp, kinds_trod 6 t ks fuel _ _ hk (fun v hv a len cap e => ?_) (by simpa [Value.cells] using hx)⟩
  obtain ⟨i, hi⟩ := List.getElem?_of_mem hv
  obtain ⟨u, _, hu⟩ := hall i v (by simpa using hi)
  subst e
  exact cell_spot hu
theorem cells_cons {k : CK} {ks : List CK} {cs : List Value} (h : CellsAre w (k :: ks) cs) : ∃ v vs, cs = v :: vs ∧ CellIs w k v ∧ CellsAre w ks vs := by
  cases cs with
  | nil => exact h.elim
  | cons v vs => exact ⟨v, vs, rfl, h.1, h.2⟩
theorem cells_nil {cs : List Value} (h : CellsAre w [] cs) : cs = [] := by
  cases cs with
  | nil => rfl
  | cons v vs => exact h.elim
end
def rhoN (l : List (Nat × Value × List (List Int))) : Env := ⟨fun k => match l[k]? with
  | some x => rho x.1 x.2.1
  | none => none, fun _ => none⟩
theorem law_callsN {P : Program} {f : Nat} {args : List SV} {vs : List Value} {x : Value} {W : World} (l : List (Nat × Value × List (List Int)))
    (hc : Con P f args (l.map fun y => .live false true ((y.2.2.flatten).map iv)) (.v x) []) (hs : ∀ y ∈ l, SliceOf W y.1 y.2.1 y.2.2) (hr : Rels (rhoN l) args vs) :
    Calls P f vs.toArray W fun e W' => e = .returned x ∧ Below W.heap.size W W' := by
  have hget : ∀ i, ((l.map fun y => BK.live false true ((y.2.2.flatten).map iv)).getD i .un = .un) ∨ ∃ y, l[i]? = some y ∧ (l.map fun y => BK.live false true ((y.2.2.flatten).map iv)).getD i .un = .live false true ((y.2.2.flatten).map iv) := by
    intro i
    rw [List.getD_eq_getElem?_getD, List.getElem?_map]
    cases h : l[i]? with
    | none => exact .inl rfl
    | some y => exact .inr ⟨y, rfl, rfl⟩
  refine law_callsL hc _ hr (fun i => ?_) (fun hM i => ?_) (fun i => ?_) (fun _ => rfl)
  · rcases hget i with h | ⟨y, _, h⟩ <;> rw [h] <;> simp [BK.own]
  · rcases hget i with h | ⟨y, h1, h⟩
    · rw [h]; simp [BRep]
    · rw [h]
      exact slice_brep (hs y (List.mem_of_getElem? h1)) (by simp only [rhoN, h1]) hM
  · rcases hget i with h | ⟨y, _, h⟩
    · rw [h]; simp [BK.pl]
    · rw [h]; exact plain_ivs _

/-! ### A loop over a list, whatever its state -/
def foldE {α σ R : Type} (f : σ → α → σ ⊕ R) : List α → σ → σ ⊕ R
  | [], v => .inl v
  | c :: l, v => match f v c with
    | .inl v' => foldE f l v'
    | .inr r => .inr r
def outE {σ R : Type} (G : σ → R) : σ ⊕ R → R
  | .inl v => G v
  | .inr r => r
theorem each_loopF {α σ T R : Type} [Inhabited R] (pk : σ → Int → T) {S : T → T ⊕ R} (f : σ → α → σ ⊕ R) (G : σ → R) {L : List α} (I : Nat → σ → Prop)
    (hS : ∀ (i : Nat) (c : α), L[i]? = some c → ∀ v, I i v → S (pk v (i : Int)) = match f v c with | .inl v' => .inl (pk v' ((i + 1 : Nat) : Int)) | .inr r => .inr r)
    (hI : ∀ (i : Nat) (c : α), L[i]? = some c → ∀ v v', I i v → f v c = .inl v' → I (i + 1) v')
    (hE : ∀ v, I L.length v → S (pk v (L.length : Int)) = .inr (G v)) :
    ∀ (k : List α) (i n : Nat) (v : σ), L.drop i = k → i ≤ L.length → k.length < n → I i v → loopF S n (pk v (i : Int)) = outE G (foldE f k v) := by
  intro k
  induction k with
  | nil =>
    intro i n v hd hi' hn hv
    have : i = L.length := by have := List.drop_eq_nil_iff.1 hd; omega
    obtain ⟨n, rfl⟩ : ∃ m, n = m + 1 := ⟨n - 1, by simp only [List.length_nil] at hn; omega⟩
    subst this
    rw [loopF_inr (hE _ hv)]; rfl
  | cons c k ih =>
    intro i n v hd hi' hn hv
    have hc : L[i]? = some c := by
      have : (L.drop i)[0]? = some c := by rw [hd]; rfl
      simpa using this
    obtain ⟨hlt, hce⟩ := List.getElem?_eq_some_iff.1 hc
    obtain ⟨n, rfl⟩ : ∃ m, n = m + 1 := ⟨n - 1, by omega⟩
    have hs := hS i c hc v hv
    unfold foldE
    cases hf : f v c with
    | inl v' =>
      rw [hf] at hs
      rw [loopF_inl hs]
      exact ih (i + 1) n v' (by rw [← List.drop_drop, hd]; rfl) (by omega) (by simp only [List.length_cons] at hn; omega) (hI i c hc v v' hv hf)
    | inr r =>
      rw [hf] at hs
      rw [loopF_inr hs]; rfl
theorem each_loop {α σ T R : Type} [Inhabited R] (pk : σ → Int → T) {S : T → T ⊕ R} (f : σ → α → σ ⊕ R) (G : σ → R) {L : List α} (I : Nat → σ → Prop) {n : Nat} {v : σ}
    (hS : ∀ (i : Nat) (c : α), L[i]? = some c → ∀ v, I i v → S (pk v (i : Int)) = match f v c with | .inl v' => .inl (pk v' ((i + 1 : Nat) : Int)) | .inr r => .inr r)
    (hI : ∀ (i : Nat) (c : α), L[i]? = some c → ∀ v v', I i v → f v c = .inl v' → I (i + 1) v')
    (hE : ∀ v, I L.length v → S (pk v (L.length : Int)) = .inr (G v)) (hn : L.length < n) (hv : I 0 v) : loopF S n (pk v 0) = outE G (foldE f L v) :=
  each_loopF pk f G I hS hI hE L 0 n v rfl (Nat.zero_le _) hn hv
/-! ### Meshes: which faces are in range -/
abbrev inF (n : Nat) (f : Int × Int × Int) : Prop := (0 ≤ f.1 ∧ f.1 < (n : Int)) ∧ (0 ≤ f.2.1 ∧ f.2.1 < (n : Int)) ∧ 0 ≤ f.2.2 ∧ f.2.2 < (n : Int)
def okTo (m : List (Int × Int × Int) × List (Int × Int × Int)) (k : Int) : Prop := ∀ i : Int, 0 ≤ i → i < k → inF m.1.length (m.2.getD (Int.toNat i) default)
theorem okTo_0 {m : List (Int × Int × Int) × List (Int × Int × Int)} : okTo m 0 := fun i h1 h2 => absurd h1 (by omega)
theorem okTo_s {m : List (Int × Int × Int) × List (Int × Int × Int)} {k : Int} (h : okTo m k) (hf : inF m.1.length (m.2.getD (Int.toNat k) default)) : okTo m (k + 1) := fun i h1 h2 => by
  by_cases e : i = k
  · subst e; exact hf
  · exact h i h1 (by omega)
theorem okTo_le {m : List (Int × Int × Int) × List (Int × Int × Int)} {k j : Int} (h : okTo m k) (hj : j ≤ k) : okTo m j := fun i h1 h2 => h i h1 (by omega)
theorem okTo_get {m : List (Int × Int × Int) × List (Int × Int × Int)} {k i : Int} (h : okTo m k) (h1 : 0 ≤ i) (h2 : i < k) : inF m.1.length (m.2.getD (Int.toNat i) default) := h i h1 h2

end Go.Proofs.YthpgabaeefifbaaGreat

namespace Go.Proofs.YthpgabaeefifbaaGreat
open Go.Proofs Go.Aw Go.RowKit
set_option maxRecDepth 100000
set_option linter.unusedVariables false
set_option linter.unusedSimpArgs false

theorem from_p {a b c : Int} (h : (!F66 a b c) = false) : b ≤ a ∧ a ≤ c := by
  unfold F66 at h
  by_cases h1 : b ≤ a
  · by_cases h2 : a ≤ c
    · exact ⟨h1, h2⟩
    · rw [decide_eq_true h1, decide_eq_false h2] at h; simp at h
  · rw [decide_eq_false h1] at h; simp at h
theorem win_p2 {a b c : Int} (h : (!F75 a b c) = false) : b ≤ a ∧ a ≤ c := by
  unfold F75 at h
  by_cases h1 : b ≤ a
  · by_cases h2 : a ≤ c
    · exact ⟨h1, h2⟩
    · rw [decide_eq_true (show a ≥ b from h1), decide_eq_false h2] at h; simp at h
  · rw [decide_eq_false (show ¬ a ≥ b from h1)] at h; simp at h
theorem face_pre {n : Nat} {f : Int × Int × Int} (hn : n ≤ 64) (h0 : (!F66 f.1 0 (W ((n : Int) - 1))) = false) (h1 : (!F66 f.2.1 0 (W ((n : Int) - 1))) = false) (h2 : (!F66 f.2.2 0 (W ((n : Int) - 1))) = false) : inF n f := by
  have hw : W ((n : Int) - 1) = (n : Int) - 1 := W_eq (by omega) (by omega)
  have g0 := from_p h0; have g1 := from_p h1; have g2 := from_p h2
  rw [hw] at g0 g1 g2
  exact ⟨⟨g0.1, by omega⟩, ⟨g1.1, by omega⟩, g2.1, by omega⟩

def c85 (x : Int × Int × Int) : List SV := [(iv x.1), (iv x.2.1), (iv x.2.2)]
theorem c85_len (x : Int × Int × Int) : (c85 x).length = 3 := rfl

def F110 (a0 : (List (Int × Int × Int)) × List (Int × Int × Int)) (a1 : Int × Int × Int) : (Int × Int × Int) × (Int × Int × Int) × Int × Int × Int :=
  ((a0.1.getD (Int.toNat a1.1) default), (a0.1.getD (Int.toNat a1.2.1) default), (a0.1.getD (Int.toNat a1.2.2) default))

theorem C110 (a0 : (List (Int × Int × Int)) × List (Int × Int × Int)) (a1 : Int × Int × Int) (l0_1 : a0.1.length ≤ 9223372036854775807) (l0_2 : a0.2.length ≤ 9223372036854775807) (hf : inF a0.1.length a1) : Con Tryz.prog 110 [(.a [(.s 0 0 a0.1.length 3), (.s 1 0 a0.2.length 3)]), (.a (k3 a1))] [(.live false true (flat c27 a0.1)), (.live false true (flat c85 a0.2))] (.a (k9 (F110 a0 a1))) [] := by
  refine con_s Tryz.func110 (by kernel_rfl) fun cx hcx => ?_
  have e := Eq.refl (F110 a0 a1); conv at e => rhs; simp only [F110]
  rw [e]
  exact rt [.i 0 3 (by decide), .i (a1.1) (a0.1.length), .L c27_len a0.1 a1.1 0 3, .i 1 3 (by decide), .i (a1.2.1) (a0.1.length), .L c27_len a0.1 a1.2.1 0 3, .i 2 3 (by decide), .i (a1.2.2) (a0.1.length), .L c27_len a0.1 a1.2.2 0 3] [] [] hcx (by kernel_rfl)

def F68 (a0 : (List (Int × Int × Int)) × List (Int × Int × Int)) (a1 : Int × Int × Int) : Int :=
  (bif (!(F66 a1.1 0 (W (((a0.1.length : Nat) : Int) - 1)))) then
   5
  else
   (bif (!(F66 a1.2.1 0 (W (((a0.1.length : Nat) : Int) - 1)))) then
    5
   else
    (bif (!(F66 a1.2.2 0 (W (((a0.1.length : Nat) : Int) - 1)))) then
     5
    else
     (bif ((((F109 (F110 (a0.1, a0.2) a1)).1 : Int) == 0) && ((((F109 (F110 (a0.1, a0.2) a1)).2.1 : Int) == 0) && ((((F109 (F110 (a0.1, a0.2) a1)).2.2 : Int) == 0) && true))) then
      6
     else
      0))))

theorem C68 (a0 : (List (Int × Int × Int)) × List (Int × Int × Int)) (a1 : Int × Int × Int) (l0_1 : a0.1.length ≤ 9223372036854775807) (l0_2 : a0.2.length ≤ 9223372036854775807) (hn : a0.1.length ≤ 64) : Con Tryz.prog 68 [(.a [(.s 0 0 a0.1.length 3), (.s 1 0 a0.2.length 3)]), (.a (k3 a1))] [(.live false true (flat c27 a0.1)), (.live false true (flat c85 a0.2))] (iv (F68 a0 a1)) [] := by
  refine con_s Tryz.func68 (by kernel_rfl) fun cx hcx => ?_
  try have hfi := face_pre hn h0 h1 h2
  let t0 : List (St Tryz.prog) := [.u 200, .T, .i 0 3 (by decide), .c [] (C66 a1.1 0 (W (((a0.1.length : Nat) : Int) - 1)))]
  cases h0 : (!(F66 a1.1 0 (W (((a0.1.length : Nat) : Int) - 1)))) with
  | true =>
   try have hfi := face_pre hn h0 h1 h2
   have e := Eq.refl (F68 a0 a1); conv at e => rhs; simp only [F68, h0, cond_true, cond_false]
   rw [e]
   exact rt (t0 ++ [.d h0]) [] [] hcx (by kernel_rfl)
  | false =>
   try have hfi := face_pre hn h0 h1 h2
   let t1 : List (St Tryz.prog) := (t0 ++ [.d h0, .u 0, .T, .i 1 3 (by decide), .c [] (C66 a1.2.1 0 (W (((a0.1.length : Nat) : Int) - 1)))])
   cases h1 : (!(F66 a1.2.1 0 (W (((a0.1.length : Nat) : Int) - 1)))) with
   | true =>
    try have hfi := face_pre hn h0 h1 h2
    have e := Eq.refl (F68 a0 a1); conv at e => rhs; simp only [F68, h0, h1, cond_true, cond_false]
    rw [e]
    exact rt (t1 ++ [.d h1]) [] [] hcx (by kernel_rfl)
   | false =>
    try have hfi := face_pre hn h0 h1 h2
    let t2 : List (St Tryz.prog) := (t1 ++ [.d h1, .u 0, .T, .i 2 3 (by decide), .c [] (C66 a1.2.2 0 (W (((a0.1.length : Nat) : Int) - 1)))])
    cases h2 : (!(F66 a1.2.2 0 (W (((a0.1.length : Nat) : Int) - 1)))) with
    | true =>
     try have hfi := face_pre hn h0 h1 h2
     have e := Eq.refl (F68 a0 a1); conv at e => rhs; simp only [F68, h0, h1, h2, cond_true, cond_false]
     rw [e]
     exact rt (t2 ++ [.d h2]) [] [] hcx (by kernel_rfl)
    | false =>
     try have hfi := face_pre hn h0 h1 h2
     let t3 : List (St Tryz.prog) := (t2 ++ [.d h2, .u 0, .F, .c [0, 1] (C110 (a0.1, a0.2) a1 (by (try simp only [List.length_append, List.length_cons, List.length_nil, Int.toNat_zero]); omega) (by (try simp only [List.length_append, List.length_cons, List.length_nil, Int.toNat_zero]); omega) hfi), .c [] (C109 (F110 (a0.1, a0.2) a1))])
     cases h3 : ((((F109 (F110 (a0.1, a0.2) a1)).1 : Int) == 0) && ((((F109 (F110 (a0.1, a0.2) a1)).2.1 : Int) == 0) && ((((F109 (F110 (a0.1, a0.2) a1)).2.2 : Int) == 0) && true))) with
     | true =>
      try have hfi := face_pre hn h0 h1 h2
      have e := Eq.refl (F68 a0 a1); conv at e => rhs; simp only [F68, h0, h1, h2, h3, cond_true, cond_false]
      rw [e]
      exact rt (t3 ++ [.d h3]) [] [] hcx (by kernel_rfl)
     | false =>
      try have hfi := face_pre hn h0 h1 h2
      have e := Eq.refl (F68 a0 a1); conv at e => rhs; simp only [F68, h0, h1, h2, h3, cond_true, cond_false]
      rw [e]
      exact rt (t3 ++ [.d h3]) [] [] hcx (by kernel_rfl)

theorem face_in {m : List (Int × Int × Int) × List (Int × Int × Int)} {f : Int × Int × Int} (h : (F68 m f != 0) = false) (hl : m.1.length ≤ 64) : inF m.1.length f := by
  have hw : W (((m.1.length : Nat) : Int) - 1) = (m.1.length : Int) - 1 := W_eq (by omega) (by omega)
  unfold F68 at h
  cases h0 : (!F66 f.1 0 (W (((m.1.length : Nat) : Int) - 1))) with
  | true => rw [h0, cond_true] at h; exact absurd h (by decide)
  | false =>
    cases h1 : (!F66 f.2.1 0 (W (((m.1.length : Nat) : Int) - 1))) with
    | true => rw [h0, h1, cond_false, cond_true] at h; exact absurd h (by decide)
    | false =>
      cases h2 : (!F66 f.2.2 0 (W (((m.1.length : Nat) : Int) - 1))) with
      | true => rw [h0, h1, h2, cond_false, cond_false, cond_true] at h; exact absurd h (by decide)
      | false =>
        have g0 := from_p h0; have g1 := from_p h1; have g2 := from_p h2
        rw [hw] at g0 g1 g2
        exact ⟨⟨g0.1, by omega⟩, ⟨g1.1, by omega⟩, g2.1, by omega⟩

def kc27 (x : Int × Int × Int) : SV := .a (c27 x)
theorem K27 : KeyOK T0 27 kc27 :=
  ⟨fun x => by kernel_rfl, fun x y => ⟨(((x.1 : Int) == y.1) && (((x.2.1 : Int) == y.2.1) && (((x.2.2 : Int) == y.2.2) && true))), by kernel_rfl, by
      simp only [kc27, c27, iv, SV.a.injEq, List.cons.injEq, SV.v.injEq, Value.int.injEq, Bool.and_eq_true, beq_iff_eq, true_and, and_true]
      constructor <;> intro h <;> omega⟩, fun x y h => by
      simp only [kc27, c27, iv, SV.a.injEq, List.cons.injEq, SV.v.injEq, Value.int.injEq, true_and, and_true] at h
      simp only [Prod.ext_iff]; omega, fun x => rfl⟩

noncomputable def B67_0 : Code := (loopAtD [1, 1, 0, 1] [] (bodyOf Tryz.f67) []).1
noncomputable def K67_0 : List K := (loopAtD [1, 1, 0, 1] [] (bodyOf Tryz.f67) []).2

def st67_0 (a0 : (List (Int × Int × Int)) × List (Int × Int × Int)) (v1 : List ((Int × Int × Int) × Bool)) (v2 : Int) : LS := ⟨slN 25 [(3, (.m 2)), (8, (.s 0 0 a0.1.length 3)), (9, (iv ((a0.1.length : Nat) : Int))), (10, (iv v2))], [(.live false true (flat c27 a0.1)), (.live false true (flat c85 a0.2)), (.map (mapE kc27 vB v1))]⟩

def S67_0 (a0 : (List (Int × Int × Int)) × List (Int × Int × Int)) : (List ((Int × Int × Int) × Bool)) × Int → ((List ((Int × Int × Int) × Bool)) × Int) ⊕ (Int)
  | (v1, v2) =>
   (bif (decide ((v2 : Int) < ((a0.1.length : Nat) : Int))) then
    (bif (!(F108 (a0.1.getD (Int.toNat v2) default) 64)) then
     (.inr 1)
    else
     (bif (mget v1 (a0.1.getD (Int.toNat v2) default) false) then
      (.inr 1)
     else
      (.inl ((mput v1 (a0.1.getD (Int.toNat v2) default) true), (v2 + 1)))))
   else
    (.inr 0))

set_option maxHeartbeats 4000000 in
theorem L67_0 (a0 : (List (Int × Int × Int)) × List (Int × Int × Int)) (l0_1 : a0.1.length ≤ 9223372036854775807) (l0_2 : a0.2.length ≤ 9223372036854775807) {cx : Cx} (hcx : cx.base = 2) : ∀ (n : Nat) (v1 : List ((Int × Int × Int) × Bool)) (v2 : Int), 0 ≤ v2 → Int.toNat (((a0.1.length : Nat) : Int) - v2) < n → Aw.Good Tryz.prog none 9 (bodyPost Tryz.prog Tryz.f67 (RR cx (iv (loopF (S67_0 a0) n (v1, v2))) [] [])) cx [] (.l B67_0 n :: K67_0) (st67_0 a0 v1 v2) := by
  intro n
  induction n with
  | zero => intro v1 v2 hi hn; exact absurd hn (Nat.not_lt_zero _)
  | succ n ih =>
    intro v1 v2 hi hn
    refine good_round ?_
    cases h0 : (decide ((v2 : Int) < ((a0.1.length : Nat) : Int))) with
    | true =>
     have q0 := of_decide_eq_true h0
     let t1 : List (St Tryz.prog) := [.d h0, .i v2 (a0.1.length), .L c27_len a0.1 v2 0 3, .c [] (C108 (a0.1.getD (Int.toNat v2) default) 64)]
     cases h1 : (!(F108 (a0.1.getD (Int.toNat v2) default) 64)) with
     | true =>
      have e := Eq.refl (S67_0 a0 (v1, v2)); conv at e => rhs; simp only [S67_0, h0, h1, cond_true, cond_false]
      rw [loopF_s, e]
      exact rt (t1 ++ [.d h1]) [] [] hcx (by kernel_rfl)
     | false =>
      let t2 : List (St Tryz.prog) := (t1 ++ [.d h1, .mG K27 vB v1 (a0.1.getD (Int.toNat v2) default) false])
      cases h2 : (mget v1 (a0.1.getD (Int.toNat v2) default) false) with
      | true =>
       have e := Eq.refl (S67_0 a0 (v1, v2)); conv at e => rhs; simp only [S67_0, h0, h1, h2, cond_true, cond_false]
       rw [loopF_s, e]
       exact rt (t2 ++ [.d h2]) [] [] hcx (by kernel_rfl)
      | false =>
       have e := Eq.refl (S67_0 a0 (v1, v2)); conv at e => rhs; simp only [S67_0, h0, h1, h2, cond_true, cond_false]
       rw [loopF_inl e]
       refine ba (t2 ++ [.d h2, .mP K27 vB v1 (a0.1.getD (Int.toNat v2) default) true]) [] [3, 8, 9, 10] [2] hcx (m := n) B67_0 (K67_0) (st67_0 a0 (mput v1 (a0.1.getD (Int.toNat v2) default) true) (W (v2 + 1))) (by kernel_rfl) ?_
       have z0 : (W (v2 + 1)) = (v2 + 1) := W_eq (by omega) (by omega)
       rw [z0]
       exact ih (mput v1 (a0.1.getD (Int.toNat v2) default) true) (v2 + 1) (by (try simp only [List.length_append, List.length_cons, List.length_nil, Int.toNat_zero]); omega) (by (try simp only [List.length_append, List.length_cons, List.length_nil, Int.toNat_zero]); omega)
    | false =>
     have q0 := of_decide_eq_false h0
     have e := Eq.refl (S67_0 a0 (v1, v2)); conv at e => rhs; simp only [S67_0, h0, cond_true, cond_false]
     rw [loopF_s, e]
     exact rt [.d h0] [] [] hcx (by kernel_rfl)

def F67 (a0 : (List (Int × Int × Int)) × List (Int × Int × Int)) : Int :=
  (loopF (S67_0 a0) (Int.toNat (((a0.1.length : Nat) : Int) - 0) + 1) (([] : List ((Int × Int × Int) × Bool)), 0))

theorem C67 (a0 : (List (Int × Int × Int)) × List (Int × Int × Int)) (l0_1 : a0.1.length ≤ 9223372036854775807) (l0_2 : a0.2.length ≤ 9223372036854775807) : Con Tryz.prog 67 [(.a [(.s 0 0 a0.1.length 3), (.s 1 0 a0.2.length 3)])] [(.live false true (flat c27 a0.1)), (.live false true (flat c85 a0.2))] (iv (F67 a0)) [] := by
  refine con_s Tryz.func67 (by kernel_rfl) fun cx hcx => ?_
  have e := Eq.refl (F67 a0); conv at e => rhs; simp only [F67]
  rw [e]
  refine en [] [] [3, 8, 9, 10] [3] hcx B67_0 (K67_0) (st67_0 a0 ([] : List ((Int × Int × Int) × Bool)) 0) (Int.toNat (((a0.1.length : Nat) : Int) - 0) + 1) (by kernel_rfl) ?_
  exact L67_0 a0 l0_1 l0_2 hcx (Int.toNat (((a0.1.length : Nat) : Int) - 0) + 1) ([] : List ((Int × Int × Int) × Bool)) 0 (by (try simp only [List.length_append, List.length_cons, List.length_nil, Int.toNat_zero]); omega) (by (try simp only [List.length_append, List.length_cons, List.length_nil, Int.toNat_zero]); omega)

def F70 (a0 : Int × Int × Int) : (Int × Int) × (Int × Int) × Int × Int :=
  ((a0.1, a0.2.1), a0.2, (a0.2.2, a0.1))

theorem C70 (a0 : Int × Int × Int) : Con Tryz.prog 70 [(.a (k3 a0))] [] (.a [(iv (F70 a0).1.1), (iv (F70 a0).1.2), (iv (F70 a0).2.1.1), (iv (F70 a0).2.1.2), (iv (F70 a0).2.2.1), (iv (F70 a0).2.2.2)]) [] := by
  refine con_s Tryz.func70 (by kernel_rfl) fun cx hcx => ?_
  have e := Eq.refl (F70 a0); conv at e => rhs; simp only [F70]
  rw [e]
  exact rt [.i 0 3 (by decide), .i 1 3 (by decide), .i 1 3 (by decide), .i 2 3 (by decide), .i 2 3 (by decide), .i 0 3 (by decide)] [] [] hcx (by kernel_rfl)

def c91 (x : Int × Int) : List SV := [(iv x.1), (iv x.2)]
def kc91 (x : Int × Int) : SV := .a (c91 x)
theorem K91 : KeyOK T0 91 kc91 :=
  ⟨fun x => by kernel_rfl, fun x y => ⟨(((x.1 : Int) == y.1) && (((x.2 : Int) == y.2) && true)), by kernel_rfl, by
      simp only [kc91, c91, iv, SV.a.injEq, List.cons.injEq, SV.v.injEq, Value.int.injEq, Bool.and_eq_true, beq_iff_eq, true_and, and_true]
      constructor <;> intro h <;> omega⟩, fun x y h => by
      simp only [kc91, c91, iv, SV.a.injEq, List.cons.injEq, SV.v.injEq, Value.int.injEq, true_and, and_true] at h
      simp only [Prod.ext_iff]; omega, fun x => rfl⟩

noncomputable def B69_0 : Code := (loopAtD [1, 1, 0, 1] [] (bodyOf Tryz.f69) []).1
noncomputable def K69_0 : List K := (loopAtD [1, 1, 0, 1] [] (bodyOf Tryz.f69) []).2

def st69_0 (a0 : (List (Int × Int × Int)) × List (Int × Int × Int)) (v1 : List ((Int × Int) × Int)) (v2 : Int) : LS := ⟨slN 30 [(3, (.m 2)), (10, (.s 1 0 a0.2.length 3)), (11, (iv ((a0.2.length : Nat) : Int))), (12, (iv v2))], [(.live false true (flat c27 a0.1)), (.live false true (flat c85 a0.2)), (.map (mapE kc91 iv v1))]⟩

def S69_0 (a0 : (List (Int × Int × Int)) × List (Int × Int × Int)) : (List ((Int × Int) × Int)) × Int → ((List ((Int × Int) × Int)) × Int) ⊕ (List ((Int × Int) × Int))
  | (v1, v2) =>
   (bif (decide ((v2 : Int) < ((a0.2.length : Nat) : Int))) then
    (.inl ((mput (mput (mput v1 ((F70 (a0.2.getD (Int.toNat v2) default)).1) (W ((mget v1 ((F70 (a0.2.getD (Int.toNat v2) default)).1) 0) + 1))) ((F70 (a0.2.getD (Int.toNat v2) default)).2.1) (W ((mget (mput v1 ((F70 (a0.2.getD (Int.toNat v2) default)).1) (W ((mget v1 ((F70 (a0.2.getD (Int.toNat v2) default)).1) 0) + 1))) ((F70 (a0.2.getD (Int.toNat v2) default)).2.1) 0) + 1))) ((F70 (a0.2.getD (Int.toNat v2) default)).2.2) (W ((mget (mput (mput v1 ((F70 (a0.2.getD (Int.toNat v2) default)).1) (W ((mget v1 ((F70 (a0.2.getD (Int.toNat v2) default)).1) 0) + 1))) ((F70 (a0.2.getD (Int.toNat v2) default)).2.1) (W ((mget (mput v1 ((F70 (a0.2.getD (Int.toNat v2) default)).1) (W ((mget v1 ((F70 (a0.2.getD (Int.toNat v2) default)).1) 0) + 1))) ((F70 (a0.2.getD (Int.toNat v2) default)).2.1) 0) + 1))) ((F70 (a0.2.getD (Int.toNat v2) default)).2.2) 0) + 1))), (v2 + 1)))
   else
    (.inr v1))

set_option maxHeartbeats 4000000 in
theorem L69_0 (a0 : (List (Int × Int × Int)) × List (Int × Int × Int)) (l0_1 : a0.1.length ≤ 9223372036854775807) (l0_2 : a0.2.length ≤ 9223372036854775807) {cx : Cx} (hcx : cx.base = 2) : ∀ (n : Nat) (v1 : List ((Int × Int) × Int)) (v2 : Int), 0 ≤ v2 → Int.toNat (((a0.2.length : Nat) : Int) - v2) < n → Aw.Good Tryz.prog none 9 (bodyPost Tryz.prog Tryz.f69 (RR cx (.m 2) [(.map (mapE kc91 iv (loopF (S69_0 a0) n (v1, v2))))] [])) cx [] (.l B69_0 n :: K69_0) (st69_0 a0 v1 v2) := by
  intro n
  induction n with
  | zero => intro v1 v2 hi hn; exact absurd hn (Nat.not_lt_zero _)
  | succ n ih =>
    intro v1 v2 hi hn
    refine good_round ?_
    cases h0 : (decide ((v2 : Int) < ((a0.2.length : Nat) : Int))) with
    | true =>
     have q0 := of_decide_eq_true h0
     have e := Eq.refl (S69_0 a0 (v1, v2)); conv at e => rhs; simp only [S69_0, h0, cond_true, cond_false]
     rw [loopF_inl e]
     refine ba [.d h0, .i v2 (a0.2.length), .L c85_len a0.2 v2 0 3, .c [] (C70 (a0.2.getD (Int.toNat v2) default)), .u 200, .T, .i 0 3 (by decide), .mGa K91 iv v1 ((F70 (a0.2.getD (Int.toNat v2) default)).1) 0 2, .mE K91 iv v1 ((F70 (a0.2.getD (Int.toNat v2) default)).1) 0, .mS K91 iv v1 ((F70 (a0.2.getD (Int.toNat v2) default)).1) 0 (W ((mget v1 ((F70 (a0.2.getD (Int.toNat v2) default)).1) 0) + 1)), .mR kc91 iv v1 ((F70 (a0.2.getD (Int.toNat v2) default)).1) 0, .u 0, .T, .i 1 3 (by decide), .mGa K91 iv (mput v1 ((F70 (a0.2.getD (Int.toNat v2) default)).1) (W ((mget v1 ((F70 (a0.2.getD (Int.toNat v2) default)).1) 0) + 1))) ((F70 (a0.2.getD (Int.toNat v2) default)).2.1) 0 2, .mE K91 iv (mput v1 ((F70 (a0.2.getD (Int.toNat v2) default)).1) (W ((mget v1 ((F70 (a0.2.getD (Int.toNat v2) default)).1) 0) + 1))) ((F70 (a0.2.getD (Int.toNat v2) default)).2.1) 0, .mS K91 iv (mput v1 ((F70 (a0.2.getD (Int.toNat v2) default)).1) (W ((mget v1 ((F70 (a0.2.getD (Int.toNat v2) default)).1) 0) + 1))) ((F70 (a0.2.getD (Int.toNat v2) default)).2.1) 0 (W ((mget (mput v1 ((F70 (a0.2.getD (Int.toNat v2) default)).1) (W ((mget v1 ((F70 (a0.2.getD (Int.toNat v2) default)).1) 0) + 1))) ((F70 (a0.2.getD (Int.toNat v2) default)).2.1) 0) + 1)), .mR kc91 iv (mput v1 ((F70 (a0.2.getD (Int.toNat v2) default)).1) (W ((mget v1 ((F70 (a0.2.getD (Int.toNat v2) default)).1) 0) + 1))) ((F70 (a0.2.getD (Int.toNat v2) default)).2.1) 0, .u 0, .T, .i 2 3 (by decide), .mGa K91 iv (mput (mput v1 ((F70 (a0.2.getD (Int.toNat v2) default)).1) (W ((mget v1 ((F70 (a0.2.getD (Int.toNat v2) default)).1) 0) + 1))) ((F70 (a0.2.getD (Int.toNat v2) default)).2.1) (W ((mget (mput v1 ((F70 (a0.2.getD (Int.toNat v2) default)).1) (W ((mget v1 ((F70 (a0.2.getD (Int.toNat v2) default)).1) 0) + 1))) ((F70 (a0.2.getD (Int.toNat v2) default)).2.1) 0) + 1))) ((F70 (a0.2.getD (Int.toNat v2) default)).2.2) 0 2, .mE K91 iv (mput (mput v1 ((F70 (a0.2.getD (Int.toNat v2) default)).1) (W ((mget v1 ((F70 (a0.2.getD (Int.toNat v2) default)).1) 0) + 1))) ((F70 (a0.2.getD (Int.toNat v2) default)).2.1) (W ((mget (mput v1 ((F70 (a0.2.getD (Int.toNat v2) default)).1) (W ((mget v1 ((F70 (a0.2.getD (Int.toNat v2) default)).1) 0) + 1))) ((F70 (a0.2.getD (Int.toNat v2) default)).2.1) 0) + 1))) ((F70 (a0.2.getD (Int.toNat v2) default)).2.2) 0, .mS K91 iv (mput (mput v1 ((F70 (a0.2.getD (Int.toNat v2) default)).1) (W ((mget v1 ((F70 (a0.2.getD (Int.toNat v2) default)).1) 0) + 1))) ((F70 (a0.2.getD (Int.toNat v2) default)).2.1) (W ((mget (mput v1 ((F70 (a0.2.getD (Int.toNat v2) default)).1) (W ((mget v1 ((F70 (a0.2.getD (Int.toNat v2) default)).1) 0) + 1))) ((F70 (a0.2.getD (Int.toNat v2) default)).2.1) 0) + 1))) ((F70 (a0.2.getD (Int.toNat v2) default)).2.2) 0 (W ((mget (mput (mput v1 ((F70 (a0.2.getD (Int.toNat v2) default)).1) (W ((mget v1 ((F70 (a0.2.getD (Int.toNat v2) default)).1) 0) + 1))) ((F70 (a0.2.getD (Int.toNat v2) default)).2.1) (W ((mget (mput v1 ((F70 (a0.2.getD (Int.toNat v2) default)).1) (W ((mget v1 ((F70 (a0.2.getD (Int.toNat v2) default)).1) 0) + 1))) ((F70 (a0.2.getD (Int.toNat v2) default)).2.1) 0) + 1))) ((F70 (a0.2.getD (Int.toNat v2) default)).2.2) 0) + 1)), .mR kc91 iv (mput (mput v1 ((F70 (a0.2.getD (Int.toNat v2) default)).1) (W ((mget v1 ((F70 (a0.2.getD (Int.toNat v2) default)).1) 0) + 1))) ((F70 (a0.2.getD (Int.toNat v2) default)).2.1) (W ((mget (mput v1 ((F70 (a0.2.getD (Int.toNat v2) default)).1) (W ((mget v1 ((F70 (a0.2.getD (Int.toNat v2) default)).1) 0) + 1))) ((F70 (a0.2.getD (Int.toNat v2) default)).2.1) 0) + 1))) ((F70 (a0.2.getD (Int.toNat v2) default)).2.2) 0, .u 0, .F] [] [3, 10, 11, 12] [2] hcx (m := n) B69_0 (K69_0) (st69_0 a0 (mput (mput (mput v1 ((F70 (a0.2.getD (Int.toNat v2) default)).1) (W ((mget v1 ((F70 (a0.2.getD (Int.toNat v2) default)).1) 0) + 1))) ((F70 (a0.2.getD (Int.toNat v2) default)).2.1) (W ((mget (mput v1 ((F70 (a0.2.getD (Int.toNat v2) default)).1) (W ((mget v1 ((F70 (a0.2.getD (Int.toNat v2) default)).1) 0) + 1))) ((F70 (a0.2.getD (Int.toNat v2) default)).2.1) 0) + 1))) ((F70 (a0.2.getD (Int.toNat v2) default)).2.2) (W ((mget (mput (mput v1 ((F70 (a0.2.getD (Int.toNat v2) default)).1) (W ((mget v1 ((F70 (a0.2.getD (Int.toNat v2) default)).1) 0) + 1))) ((F70 (a0.2.getD (Int.toNat v2) default)).2.1) (W ((mget (mput v1 ((F70 (a0.2.getD (Int.toNat v2) default)).1) (W ((mget v1 ((F70 (a0.2.getD (Int.toNat v2) default)).1) 0) + 1))) ((F70 (a0.2.getD (Int.toNat v2) default)).2.1) 0) + 1))) ((F70 (a0.2.getD (Int.toNat v2) default)).2.2) 0) + 1))) (W (v2 + 1))) (by kernel_rfl) ?_
     have z0 : (W (v2 + 1)) = (v2 + 1) := W_eq (by omega) (by omega)
     rw [z0]
     exact ih (mput (mput (mput v1 ((F70 (a0.2.getD (Int.toNat v2) default)).1) (W ((mget v1 ((F70 (a0.2.getD (Int.toNat v2) default)).1) 0) + 1))) ((F70 (a0.2.getD (Int.toNat v2) default)).2.1) (W ((mget (mput v1 ((F70 (a0.2.getD (Int.toNat v2) default)).1) (W ((mget v1 ((F70 (a0.2.getD (Int.toNat v2) default)).1) 0) + 1))) ((F70 (a0.2.getD (Int.toNat v2) default)).2.1) 0) + 1))) ((F70 (a0.2.getD (Int.toNat v2) default)).2.2) (W ((mget (mput (mput v1 ((F70 (a0.2.getD (Int.toNat v2) default)).1) (W ((mget v1 ((F70 (a0.2.getD (Int.toNat v2) default)).1) 0) + 1))) ((F70 (a0.2.getD (Int.toNat v2) default)).2.1) (W ((mget (mput v1 ((F70 (a0.2.getD (Int.toNat v2) default)).1) (W ((mget v1 ((F70 (a0.2.getD (Int.toNat v2) default)).1) 0) + 1))) ((F70 (a0.2.getD (Int.toNat v2) default)).2.1) 0) + 1))) ((F70 (a0.2.getD (Int.toNat v2) default)).2.2) 0) + 1))) (v2 + 1) (by (try simp only [List.length_append, List.length_cons, List.length_nil, Int.toNat_zero]); omega) (by (try simp only [List.length_append, List.length_cons, List.length_nil, Int.toNat_zero]); omega)
    | false =>
     have q0 := of_decide_eq_false h0
     have e := Eq.refl (S69_0 a0 (v1, v2)); conv at e => rhs; simp only [S69_0, h0, cond_true, cond_false]
     rw [loopF_s, e]
     exact rt [.d h0] [] [2] hcx (by kernel_rfl)

def F69 (a0 : (List (Int × Int × Int)) × List (Int × Int × Int)) : List ((Int × Int) × Int) :=
  (loopF (S69_0 a0) (Int.toNat (((a0.2.length : Nat) : Int) - 0) + 1) (([] : List ((Int × Int) × Int)), 0))

theorem C69 (a0 : (List (Int × Int × Int)) × List (Int × Int × Int)) (l0_1 : a0.1.length ≤ 9223372036854775807) (l0_2 : a0.2.length ≤ 9223372036854775807) : Con Tryz.prog 69 [(.a [(.s 0 0 a0.1.length 3), (.s 1 0 a0.2.length 3)])] [(.live false true (flat c27 a0.1)), (.live false true (flat c85 a0.2))] (.m 2) [(.map (mapE kc91 iv (F69 a0)))] := by
  refine con_s Tryz.func69 (by kernel_rfl) fun cx hcx => ?_
  have e := Eq.refl (F69 a0); conv at e => rhs; simp only [F69]
  rw [e]
  refine en [] [] [3, 10, 11, 12] [3] hcx B69_0 (K69_0) (st69_0 a0 ([] : List ((Int × Int) × Int)) 0) (Int.toNat (((a0.2.length : Nat) : Int) - 0) + 1) (by kernel_rfl) ?_
  exact L69_0 a0 l0_1 l0_2 hcx (Int.toNat (((a0.2.length : Nat) : Int) - 0) + 1) ([] : List ((Int × Int) × Int)) 0 (by (try simp only [List.length_append, List.length_cons, List.length_nil, Int.toNat_zero]); omega) (by (try simp only [List.length_append, List.length_cons, List.length_nil, Int.toNat_zero]); omega)

noncomputable def B111_0 : Code := (loopAtD [1, 1, 0, 1] [] (bodyOf Tryz.f111) []).1
noncomputable def K111_0 : List K := (loopAtD [1, 1, 0, 1] [] (bodyOf Tryz.f111) []).2

def st111_0 (a0 : (List (Int × Int × Int)) × List (Int × Int × Int)) (v2c : List SV) (v2n : Nat) (v3 : Int) : LS := ⟨slN 21 [(1, (.p 2 0)), (3, (.s 3 0 v2n 9)), (7, (.s 1 0 a0.2.length 3)), (8, (iv ((a0.2.length : Nat) : Int))), (9, (iv v3))], [(.live false true (flat c27 a0.1)), (.live false true (flat c85 a0.2)), (.live true false [(.s 0 0 a0.1.length 3), (.s 1 0 a0.2.length 3)]), (.live true true v2c)]⟩

def S111_0 (a0 : (List (Int × Int × Int)) × List (Int × Int × Int)) : (List ((Int × Int × Int) × (Int × Int × Int) × Int × Int × Int)) × Int → ((List ((Int × Int × Int) × (Int × Int × Int) × Int × Int × Int)) × Int) ⊕ (List ((Int × Int × Int) × (Int × Int × Int) × Int × Int × Int))
  | (v2, v3) =>
   (bif (decide ((v3 : Int) < ((a0.2.length : Nat) : Int))) then
    (.inl ((v2 ++ [(F110 (a0.1, a0.2) (a0.2.getD (Int.toNat v3) default))]), (v3 + 1)))
   else
    (.inr v2))

set_option maxHeartbeats 4000000 in
theorem L111_0 (a0 : (List (Int × Int × Int)) × List (Int × Int × Int)) (l0_1 : a0.1.length ≤ 9223372036854775807) (l0_2 : a0.2.length ≤ 9223372036854775807) (hv : okTo a0 a0.2.length) (hn : a0.2.length ≤ 96) {cx : Cx} (hcx : cx.base = 2) : ∀ (n : Nat) (v2 : List ((Int × Int × Int) × (Int × Int × Int) × Int × Int × Int)) (v3 : Int), (0 ≤ v3) ∧ (v2.length = Int.toNat v3) ∧ (v3 ≤ a0.2.length) → Int.toNat (((a0.2.length : Nat) : Int) - v3) < n → Aw.Good Tryz.prog none 9 (bodyPost Tryz.prog Tryz.f111 (RR cx (.s 2 0 (loopF (S111_0 a0) n (v2, v3)).length 9) [(.live true true (flat c65 (loopF (S111_0 a0) n (v2, v3))))] [])) cx [] (.l B111_0 n :: K111_0) (st111_0 a0 (flat c65 v2) v2.length v3) := by
  intro n
  induction n with
  | zero => intro v2 v3 hi hn; exact absurd hn (Nat.not_lt_zero _)
  | succ n ih =>
    intro v2 v3 hi hn
    refine good_round ?_
    cases h0 : (decide ((v3 : Int) < ((a0.2.length : Nat) : Int))) with
    | true =>
     have q0 := of_decide_eq_true h0
     have e := Eq.refl (S111_0 a0 (v2, v3)); conv at e => rhs; simp only [S111_0, h0, cond_true, cond_false]
     rw [loopF_inl e]
     refine ba [.d h0, .i v3 (a0.2.length), .L c85_len a0.2 v3 0 3, .c [0, 1] (C110 (a0.1, a0.2) (a0.2.getD (Int.toNat v3) default) (by (try simp only [List.length_append, List.length_cons, List.length_nil, Int.toNat_zero]); omega) (by (try simp only [List.length_append, List.length_cons, List.length_nil, Int.toNat_zero]); omega) (okTo_get hv (by omega) (by omega))), .p (show ((flat c65 v2).length = v2.length * 9 ∧ v2.length + 1 ≤ 2 ^ 40 ∧ (v2.length + 1) * 72 ≤ 2 ^ 47) from app_ok c65_len (by omega) (by omega))] [] [1, 3, 7, 8, 9] [2, 6] hcx (m := n) B111_0 (K111_0) (st111_0 a0 (flat c65 v2 ++ (k9 (F110 (a0.1, a0.2) (a0.2.getD (Int.toNat v3) default)))) (v2.length + 1) (W (v3 + 1))) (by kernel_rfl) ?_
     have z0 : (W (v3 + 1)) = (v3 + 1) := W_eq (by omega) (by omega)
     have z1 : (flat c65 v2 ++ (k9 (F110 (a0.1, a0.2) (a0.2.getD (Int.toNat v3) default)))) = (flat c65 (v2 ++ [(F110 (a0.1, a0.2) (a0.2.getD (Int.toNat v3) default))])) := (flat_append (c := c65) (l := v2) (m := [(F110 (a0.1, a0.2) (a0.2.getD (Int.toNat v3) default))])).symm
     have z2 : (v2.length + 1) = (v2 ++ [(F110 (a0.1, a0.2) (a0.2.getD (Int.toNat v3) default))]).length := len_app v2 [(F110 (a0.1, a0.2) (a0.2.getD (Int.toNat v3) default))] rfl
     rw [z0, z1, z2]
     exact ih (v2 ++ [(F110 (a0.1, a0.2) (a0.2.getD (Int.toNat v3) default))]) (v3 + 1) (by refine ⟨?_, ?_, ?_⟩ <;> (try simp only [List.length_append, List.length_cons, List.length_nil, Int.toNat_zero]) <;> first | omega | assumption | simp) (by (try simp only [List.length_append, List.length_cons, List.length_nil, Int.toNat_zero]); omega)
    | false =>
     have q0 := of_decide_eq_false h0
     have e := Eq.refl (S111_0 a0 (v2, v3)); conv at e => rhs; simp only [S111_0, h0, cond_true, cond_false]
     rw [loopF_s, e]
     exact rt [.d h0] [] [3] hcx (by kernel_rfl)

def F111 (a0 : (List (Int × Int × Int)) × List (Int × Int × Int)) : List ((Int × Int × Int) × (Int × Int × Int) × Int × Int × Int) :=
  (loopF (S111_0 a0) (Int.toNat (((a0.2.length : Nat) : Int) - 0) + 1) (([] : List ((Int × Int × Int) × (Int × Int × Int) × Int × Int × Int)), 0))

theorem C111 (a0 : (List (Int × Int × Int)) × List (Int × Int × Int)) (l0_1 : a0.1.length ≤ 9223372036854775807) (l0_2 : a0.2.length ≤ 9223372036854775807) (hv : okTo a0 a0.2.length) (hn : a0.2.length ≤ 96) : Con Tryz.prog 111 [(.a [(.s 0 0 a0.1.length 3), (.s 1 0 a0.2.length 3)])] [(.live false true (flat c27 a0.1)), (.live false true (flat c85 a0.2))] (.s 2 0 (F111 a0).length 9) [(.live true true (flat c65 (F111 a0)))] := by
  refine con_s Tryz.func111 (by kernel_rfl) fun cx hcx => ?_
  have e := Eq.refl (F111 a0); conv at e => rhs; simp only [F111]
  rw [e]
  refine en [] [.slot 3 9] [1, 3, 7, 8, 9] [2, 3] hcx B111_0 (K111_0) (st111_0 a0 (flat c65 ([] : List ((Int × Int × Int) × (Int × Int × Int) × Int × Int × Int))) 0 0) (Int.toNat (((a0.2.length : Nat) : Int) - 0) + 1) (by kernel_rfl) ?_
  exact L111_0 a0 l0_1 l0_2 hv hn hcx (Int.toNat (((a0.2.length : Nat) : Int) - 0) + 1) ([] : List ((Int × Int × Int) × (Int × Int × Int) × Int × Int × Int)) 0 (by refine ⟨?_, ?_, ?_⟩ <;> (try simp only [List.length_append, List.length_cons, List.length_nil, Int.toNat_zero]) <;> first | omega | assumption | simp) (by (try simp only [List.length_append, List.length_cons, List.length_nil, Int.toNat_zero]); omega)

theorem pnl_map (m : List (Int × Int × Int) × List (Int × Int × Int)) : F111 m = m.2.map (F110 m) := by
  unfold F111
  rw [show (Int.toNat (((m.2.length : Nat) : Int) - 0) + 1) = m.2.length + 1 by omega]
  rw [each_loop (fun v i => (v, i)) (fun v c => .inl (v ++ [F110 m c])) (fun v => v) (L := m.2) (fun _ _ => True) ?_ (fun _ _ _ _ _ _ _ => trivial) ?_ (by omega) trivial]
  · have key : ∀ (l : List (Int × Int × Int)) (v : List ((Int × Int × Int) × (Int × Int × Int) × Int × Int × Int)), foldE (σ := List ((Int × Int × Int) × (Int × Int × Int) × Int × Int × Int)) (R := List ((Int × Int × Int) × (Int × Int × Int) × Int × Int × Int)) (fun v c => .inl (v ++ [F110 m c])) l v = .inl (v ++ l.map (F110 m)) := by
      intro l
      induction l with
      | nil => intro v; simp [foldE]
      | cons c l ih => intro v; simp only [foldE]; rw [ih]; simp
    rw [key]; simp [outE]
  · intro i c hc v _
    obtain ⟨hlt, hce⟩ := List.getElem?_eq_some_iff.1 hc
    simp only [S111_0]
    rw [decide_eq_true (by omega), cond_true, Int.toNat_natCast, List.getD_eq_getElem?_getD, hc]
    rfl
  · intro v _
    simp only [S111_0]
    rw [decide_eq_false (by omega), cond_false]
theorem pnl_len (m : List (Int × Int × Int) × List (Int × Int × Int)) : (F111 m).length = m.2.length := by rw [pnl_map, List.length_map]

def F145 (a0 : Int × Int × Int) (a1 : Int × Int × Int) : Int :=
  (W ((W ((W (a0.1 * a1.1)) + (W (a0.2.1 * a1.2.1)))) + (W (a0.2.2 * a1.2.2))))

theorem C145 (a0 : Int × Int × Int) (a1 : Int × Int × Int) : Con Tryz.prog 145 [(.a (k3 a0)), (.a (k3 a1))] [] (iv (F145 a0 a1)) [] := by
  refine con_s Tryz.func145 (by kernel_rfl) fun cx hcx => ?_
  have e := Eq.refl (F145 a0 a1); conv at e => rhs; simp only [F145]
  rw [e]
  exact rt [] [] [] hcx (by kernel_rfl)

def F112 (a0 : (Int × Int × Int) × (Int × Int × Int) × Int × Int × Int) : Int :=
  (F145 a0.1 (F143 a0.2.1 a0.2.2))

theorem C112 (a0 : (Int × Int × Int) × (Int × Int × Int) × Int × Int × Int) : Con Tryz.prog 112 [(.a (k9 a0))] [] (iv (F112 a0)) [] := by
  refine con_s Tryz.func112 (by kernel_rfl) fun cx hcx => ?_
  have e := Eq.refl (F112 a0); conv at e => rhs; simp only [F112]
  rw [e]
  exact rt [.c [] (C143 a0.2.1 a0.2.2), .c [] (C145 a0.1 (F143 a0.2.1 a0.2.2))] [] [] hcx (by kernel_rfl)

noncomputable def B72_0 : Code := (loopAtD [1, 1, 0, 1] [] (bodyOf Tryz.f72) []).1
noncomputable def K72_0 : List K := (loopAtD [1, 1, 0, 1] [] (bodyOf Tryz.f72) []).2

def st72_0 (a0 : (List (Int × Int × Int)) × List (Int × Int × Int)) (v1 : Int) (v2 : Int) : LS := ⟨slN 19 [(3, (iv v1)), (7, (.s 2 0 (F111 (a0.1, a0.2)).length 9)), (8, (iv (((F111 (a0.1, a0.2)).length : Nat) : Int))), (9, (iv v2))], [(.live false true (flat c27 a0.1)), (.live false true (flat c85 a0.2)), (.live true true (flat c65 (F111 (a0.1, a0.2))))]⟩

def S72_0 (a0 : (List (Int × Int × Int)) × List (Int × Int × Int)) : Int × Int → (Int × Int) ⊕ (Int)
  | (v1, v2) =>
   (bif (decide ((v2 : Int) < (((F111 (a0.1, a0.2)).length : Nat) : Int))) then
    (.inl ((W (v1 + (F112 ((F111 (a0.1, a0.2)).getD (Int.toNat v2) default)))), (v2 + 1)))
   else
    (.inr v1))

set_option maxHeartbeats 4000000 in
theorem L72_0 (a0 : (List (Int × Int × Int)) × List (Int × Int × Int)) (l0_1 : a0.1.length ≤ 9223372036854775807) (l0_2 : a0.2.length ≤ 9223372036854775807) (hv : okTo a0 a0.2.length) (hn : a0.2.length ≤ 96) {cx : Cx} (hcx : cx.base = 2) : ∀ (n : Nat) (v1 : Int) (v2 : Int), 0 ≤ v2 → Int.toNat ((((F111 (a0.1, a0.2)).length : Nat) : Int) - v2) < n → Aw.Good Tryz.prog none 9 (bodyPost Tryz.prog Tryz.f72 (RR cx (iv (loopF (S72_0 a0) n (v1, v2))) [] [])) cx [] (.l B72_0 n :: K72_0) (st72_0 a0 v1 v2) := by
  intro n
  induction n with
  | zero => intro v1 v2 hi hn; exact absurd hn (Nat.not_lt_zero _)
  | succ n ih =>
    intro v1 v2 hi hn
    refine good_round ?_
    have hpl : (F111 (a0.1, a0.2)).length = a0.2.length := pnl_len a0
    cases h0 : (decide ((v2 : Int) < (((F111 (a0.1, a0.2)).length : Nat) : Int))) with
    | true =>
     have q0 := of_decide_eq_true h0
     have e := Eq.refl (S72_0 a0 (v1, v2)); conv at e => rhs; simp only [S72_0, h0, cond_true, cond_false]
     rw [loopF_inl e]
     refine ba [.d h0, .i v2 ((F111 (a0.1, a0.2)).length), .L c65_len (F111 (a0.1, a0.2)) v2 0 9, .c [] (C112 ((F111 (a0.1, a0.2)).getD (Int.toNat v2) default))] [] [3, 7, 8, 9] [2] hcx (m := n) B72_0 (K72_0) (st72_0 a0 (W (v1 + (F112 ((F111 (a0.1, a0.2)).getD (Int.toNat v2) default)))) (W (v2 + 1))) (by kernel_rfl) ?_
     have z0 : (W (v2 + 1)) = (v2 + 1) := W_eq (by omega) (by omega)
     rw [z0]
     exact ih (W (v1 + (F112 ((F111 (a0.1, a0.2)).getD (Int.toNat v2) default)))) (v2 + 1) (by (try simp only [List.length_append, List.length_cons, List.length_nil, Int.toNat_zero]); omega) (by (try simp only [List.length_append, List.length_cons, List.length_nil, Int.toNat_zero]); omega)
    | false =>
     have q0 := of_decide_eq_false h0
     have e := Eq.refl (S72_0 a0 (v1, v2)); conv at e => rhs; simp only [S72_0, h0, cond_true, cond_false]
     rw [loopF_s, e]
     exact rt [.d h0] [] [] hcx (by kernel_rfl)

def F72 (a0 : (List (Int × Int × Int)) × List (Int × Int × Int)) : Int :=
  (loopF (S72_0 a0) (Int.toNat ((((F111 (a0.1, a0.2)).length : Nat) : Int) - 0) + 1) (0, 0))

theorem C72 (a0 : (List (Int × Int × Int)) × List (Int × Int × Int)) (l0_1 : a0.1.length ≤ 9223372036854775807) (l0_2 : a0.2.length ≤ 9223372036854775807) (hv : okTo a0 a0.2.length) (hn : a0.2.length ≤ 96) : Con Tryz.prog 72 [(.a [(.s 0 0 a0.1.length 3), (.s 1 0 a0.2.length 3)])] [(.live false true (flat c27 a0.1)), (.live false true (flat c85 a0.2))] (iv (F72 a0)) [] := by
  refine con_s Tryz.func72 (by kernel_rfl) fun cx hcx => ?_
  have e := Eq.refl (F72 a0); conv at e => rhs; simp only [F72]
  rw [e]
  refine en [.c [0, 1] (C111 (a0.1, a0.2) (by (try simp only [List.length_append, List.length_cons, List.length_nil, Int.toNat_zero]); omega) (by (try simp only [List.length_append, List.length_cons, List.length_nil, Int.toNat_zero]); omega) hv hn)] [] [3, 7, 8, 9] [3] hcx B72_0 (K72_0) (st72_0 a0 0 0) (Int.toNat ((((F111 (a0.1, a0.2)).length : Nat) : Int) - 0) + 1) (by kernel_rfl) ?_
  exact L72_0 a0 l0_1 l0_2 hv hn hcx (Int.toNat ((((F111 (a0.1, a0.2)).length : Nat) : Int) - 0) + 1) 0 0 (by (try simp only [List.length_append, List.length_cons, List.length_nil, Int.toNat_zero]); omega) (by (try simp only [List.length_append, List.length_cons, List.length_nil, Int.toNat_zero]); omega)

def c4 (x : Bool) : List SV := [(.v (.bool x))]
theorem c4_len (x : Bool) : (c4 x).length = 1 := rfl

def F71 (a0 : Int × Int) : Int × Int :=
  (a0.2, a0.1)

theorem C71 (a0 : Int × Int) : Con Tryz.prog 71 [(.a [(iv a0.1), (iv a0.2)])] [] (.a (k2 (F71 a0))) [] := by
  refine con_s Tryz.func71 (by kernel_rfl) fun cx hcx => ?_
  have e := Eq.refl (F71 a0); conv at e => rhs; simp only [F71]
  rw [e]
  exact rt [.i 1 2 (by decide), .i 0 2 (by decide)] [] [] hcx (by kernel_rfl)

noncomputable def B32_4 : Code := (loopAtD [1, 1, 1, 1, 1, 1, 1, 0, 1] [] (bodyOf Tryz.f32) []).1
noncomputable def K32_4 : List K := (loopAtD [1, 1, 1, 1, 1, 1, 1, 0, 1] [] (bodyOf Tryz.f32) []).2

def st32_4 (a0 : (List (Int × Int × Int)) × List (Int × Int × Int)) (v8c : List SV) (v8n : Nat) (v9 : Int) (v10 : Int) : LS := ⟨slN 98 [(1, (.p 2 0)), (86, (.s 3 0 v8n 1)), (87, (iv v9)), (88, (iv v10))], [(.live false true (flat c27 a0.1)), (.live false true (flat c85 a0.2)), (.live true false [(.s 0 0 a0.1.length 3), (.s 1 0 a0.2.length 3)]), (.live true true v8c)]⟩

def S32_4 (a0 : (List (Int × Int × Int)) × List (Int × Int × Int)) : List (Bool) × Int × Int → (List (Bool) × Int × Int) ⊕ (Int)
  | (v8, v9, v10) =>
   (bif (decide ((v10 : Int) < v9)) then
    (bif (!(v8.getD (Int.toNat v10) default)) then
     (.inr 5)
    else
     (.inl (v8, v9, (v10 + 1))))
   else
    (bif (decide (((F72 (a0.1, a0.2)) : Int) ≤ 0)) then
     (.inr 8)
    else
     (.inr 0)))

noncomputable def B32_2 : Code := (loopAtD [1, 1, 1, 1, 1, 1, 0, 1] [] (bodyOf Tryz.f32) []).1
noncomputable def K32_2 : List K := (loopAtD [1, 1, 1, 1, 1, 1, 0, 1] [] (bodyOf Tryz.f32) []).2

def st32_2 (a0 : (List (Int × Int × Int)) × List (Int × Int × Int)) (v4c : List SV) (v4n : Nat) (v5 : Int) : LS := ⟨slN 98 [(1, (.p 2 0)), (4, (.s 3 0 v4n 1)), (10, (.m 4)), (62, (.s 1 0 a0.2.length 3)), (63, (iv ((a0.2.length : Nat) : Int))), (64, (iv v5))], [(.live false true (flat c27 a0.1)), (.live false true (flat c85 a0.2)), (.live true false [(.s 0 0 a0.1.length 3), (.s 1 0 a0.2.length 3)]), (.live true true v4c), (.map (mapE kc91 iv (F69 (a0.1, a0.2))))]⟩

def S32_2 (a0 : (List (Int × Int × Int)) × List (Int × Int × Int)) : List (Bool) × Int → (List (Bool) × Int) ⊕ (Int)
  | (v4, v5) =>
   (bif (decide ((v5 : Int) < ((a0.2.length : Nat) : Int))) then
    (bif (((mget (F69 (a0.1, a0.2)) ((F70 (a0.2.getD (Int.toNat v5) default)).1) 0) : Int) != 1) then
     (.inr 7)
    else
     (bif (((mget (F69 (a0.1, a0.2)) (F71 (F70 (a0.2.getD (Int.toNat v5) default)).1) 0) : Int) != 1) then
      (.inr 7)
     else
      (bif (((mget (F69 (a0.1, a0.2)) ((F70 (a0.2.getD (Int.toNat v5) default)).2.1) 0) : Int) != 1) then
       (.inr 7)
      else
       (bif (((mget (F69 (a0.1, a0.2)) (F71 (F70 (a0.2.getD (Int.toNat v5) default)).2.1) 0) : Int) != 1) then
        (.inr 7)
       else
        (bif (((mget (F69 (a0.1, a0.2)) ((F70 (a0.2.getD (Int.toNat v5) default)).2.2) 0) : Int) != 1) then
         (.inr 7)
        else
         (bif (((mget (F69 (a0.1, a0.2)) (F71 (F70 (a0.2.getD (Int.toNat v5) default)).2.2) 0) : Int) != 1) then
          (.inr 7)
         else
          (.inl (v4, (v5 + 1)))))))))
   else
    (.inr (loopF (S32_4 a0) (Int.toNat (((v4.length : Nat) : Int) - 0) + 1) (v4, ((v4.length : Nat) : Int), 0))))

noncomputable def B32_0 : Code := (loopAtD [1, 1, 1, 1, 0, 1] [] (bodyOf Tryz.f32) []).1
noncomputable def K32_0 : List K := (loopAtD [1, 1, 1, 1, 0, 1] [] (bodyOf Tryz.f32) []).2

def st32_0 (a0 : (List (Int × Int × Int)) × List (Int × Int × Int)) (v1c : List SV) (v1n : Nat) (v2 : Int) : LS := ⟨slN 98 [(1, (.p 2 0)), (4, (.s 3 0 v1n 1)), (38, (.s 1 0 a0.2.length 3)), (39, (iv ((a0.2.length : Nat) : Int))), (40, (iv v2))], [(.live false true (flat c27 a0.1)), (.live false true (flat c85 a0.2)), (.live true false [(.s 0 0 a0.1.length 3), (.s 1 0 a0.2.length 3)]), (.live true true v1c)]⟩

def S32_0 (a0 : (List (Int × Int × Int)) × List (Int × Int × Int)) : List (Bool) × Int → (List (Bool) × Int) ⊕ (Int)
  | (v1, v2) =>
   (bif (decide ((v2 : Int) < ((a0.2.length : Nat) : Int))) then
    (bif (((F68 (a0.1, a0.2) (a0.2.getD (Int.toNat v2) default)) : Int) != 0) then
     (.inr (F68 (a0.1, a0.2) (a0.2.getD (Int.toNat v2) default)))
    else
     (.inl ((((v1.set (Int.toNat (a0.2.getD (Int.toNat v2) default).1) true).set (Int.toNat (a0.2.getD (Int.toNat v2) default).2.1) true).set (Int.toNat (a0.2.getD (Int.toNat v2) default).2.2) true), (v2 + 1))))
   else
    (.inr (loopF (S32_2 a0) (Int.toNat (((a0.2.length : Nat) : Int) - 0) + 1) (v1, 0))))

set_option maxHeartbeats 4000000 in
theorem L32_4 (a0 : (List (Int × Int × Int)) × List (Int × Int × Int)) (l0_1 : a0.1.length ≤ 9223372036854775807) (l0_2 : a0.2.length ≤ 9223372036854775807) {cx : Cx} (hcx : cx.base = 2) : ∀ (n : Nat) (v8 : List (Bool)) (v9 : Int) (v10 : Int), (0 ≤ v10) ∧ (okTo a0 a0.2.length) ∧ (a0.1.length ≤ 64) ∧ (a0.2.length ≤ 96) ∧ (v9 = ((v8.length : Nat) : Int)) ∧ (v8.length = a0.1.length) → Int.toNat (v9 - v10) < n → Aw.Good Tryz.prog none 9 (bodyPost Tryz.prog Tryz.f32 (RR cx (iv (loopF (S32_4 a0) n (v8, v9, v10))) [] [])) cx [] (.l B32_4 n :: K32_4) (st32_4 a0 (flat c4 v8) v8.length v9 v10) := by
  intro n
  induction n with
  | zero => intro v8 v9 v10 hi hn; exact absurd hn (Nat.not_lt_zero _)
  | succ n ih =>
    intro v8 v9 v10 hi hn
    refine good_round ?_
    cases h0 : (decide ((v10 : Int) < v9)) with
    | true =>
     have q0 := of_decide_eq_true h0
     let t1 : List (St Tryz.prog) := [.d h0, .i v10 (v8.length), .L c4_len v8 v10 0 1]
     cases h1 : (!(v8.getD (Int.toNat v10) default)) with
     | true =>
      have e := Eq.refl (S32_4 a0 (v8, v9, v10)); conv at e => rhs; simp only [S32_4, h0, h1, cond_true, cond_false]
      rw [loopF_s, e]
      exact rt (t1 ++ [.d h1]) [] [] hcx (by kernel_rfl)
     | false =>
      have e := Eq.refl (S32_4 a0 (v8, v9, v10)); conv at e => rhs; simp only [S32_4, h0, h1, cond_true, cond_false]
      rw [loopF_inl e]
      refine ba (t1 ++ [.d h1]) [] [1, 86, 87, 88] [2, 3] hcx (m := n) B32_4 (K32_4) (st32_4 a0 (flat c4 v8) (v8.length) v9 (W (v10 + 1))) (by kernel_rfl) ?_
      have z0 : (W (v10 + 1)) = (v10 + 1) := W_eq (by omega) (by omega)
      rw [z0]
      exact ih v8 v9 (v10 + 1) (by refine ⟨?_, ?_, ?_, ?_, ?_, ?_⟩ <;> first | omega | assumption | exact okTo_0 | exact hi.2.1 | exact hi.2.2.1 | exact okTo_le hi.2.2.1 (by omega) | exact okTo_s hi.2.2.1 hfo | exact okTo_s hi.2.2.1 (by refine ⟨⟨?_, ?_⟩, ⟨?_, ?_⟩, ?_, ?_⟩ <;> omega) | (simp only [List.length_replicate, List.length_set]; omega)) (by (try simp only [List.length_append, List.length_cons, List.length_nil, Int.toNat_zero]); omega)
    | false =>
     have q0 := of_decide_eq_false h0
     let t1 : List (St Tryz.prog) := [.d h0, .c [0, 1] (C72 (a0.1, a0.2) (by (try simp only [List.length_append, List.length_cons, List.length_nil, Int.toNat_zero]); omega) (by (try simp only [List.length_append, List.length_cons, List.length_nil, Int.toNat_zero]); omega) hi.2.1 (by show a0.2.length ≤ 96; omega))]
     cases h1 : (decide (((F72 (a0.1, a0.2)) : Int) ≤ 0)) with
     | true =>
      have q1 := of_decide_eq_true h1
      have e := Eq.refl (S32_4 a0 (v8, v9, v10)); conv at e => rhs; simp only [S32_4, h0, h1, cond_true, cond_false]
      rw [loopF_s, e]
      exact rt (t1 ++ [.d h1]) [] [] hcx (by kernel_rfl)
     | false =>
      have q1 := of_decide_eq_false h1
      have e := Eq.refl (S32_4 a0 (v8, v9, v10)); conv at e => rhs; simp only [S32_4, h0, h1, cond_true, cond_false]
      rw [loopF_s, e]
      exact rt (t1 ++ [.d h1]) [] [] hcx (by kernel_rfl)

set_option maxHeartbeats 4000000 in
theorem L32_2 (a0 : (List (Int × Int × Int)) × List (Int × Int × Int)) (l0_1 : a0.1.length ≤ 9223372036854775807) (l0_2 : a0.2.length ≤ 9223372036854775807) {cx : Cx} (hcx : cx.base = 2) : ∀ (n : Nat) (v4 : List (Bool)) (v5 : Int), (0 ≤ v5) ∧ (okTo a0 a0.2.length) ∧ (a0.1.length ≤ 64) ∧ (a0.2.length ≤ 96) ∧ (v4.length = a0.1.length) → Int.toNat (((a0.2.length : Nat) : Int) - v5) < n → Aw.Good Tryz.prog none 9 (bodyPost Tryz.prog Tryz.f32 (RR cx (iv (loopF (S32_2 a0) n (v4, v5))) [] [])) cx [] (.l B32_2 n :: K32_2) (st32_2 a0 (flat c4 v4) v4.length v5) := by
  intro n
  induction n with
  | zero => intro v4 v5 hi hn; exact absurd hn (Nat.not_lt_zero _)
  | succ n ih =>
    intro v4 v5 hi hn
    refine good_round ?_
    cases h0 : (decide ((v5 : Int) < ((a0.2.length : Nat) : Int))) with
    | true =>
     have q0 := of_decide_eq_true h0
     let t1 : List (St Tryz.prog) := [.d h0, .i v5 (a0.2.length), .L c85_len a0.2 v5 0 3, .c [] (C70 (a0.2.getD (Int.toNat v5) default)), .u 200, .T, .i 0 3 (by decide), .mG K91 iv (F69 (a0.1, a0.2)) ((F70 (a0.2.getD (Int.toNat v5) default)).1) 0]
     cases h1 : (((mget (F69 (a0.1, a0.2)) ((F70 (a0.2.getD (Int.toNat v5) default)).1) 0) : Int) != 1) with
     | true =>
      have q1 := bne_iff_ne.1 h1
      have e := Eq.refl (S32_2 a0 (v4, v5)); conv at e => rhs; simp only [S32_2, h0, h1, cond_true, cond_false]
      rw [loopF_s, e]
      exact rt (t1 ++ [.d h1]) [] [] hcx (by kernel_rfl)
     | false =>
      have q1 := bne_eq_false_iff_eq.1 h1
      let t2 : List (St Tryz.prog) := (t1 ++ [.d h1, .c [] (C71 (F70 (a0.2.getD (Int.toNat v5) default)).1), .mG K91 iv (F69 (a0.1, a0.2)) (F71 (F70 (a0.2.getD (Int.toNat v5) default)).1) 0])
      cases h2 : (((mget (F69 (a0.1, a0.2)) (F71 (F70 (a0.2.getD (Int.toNat v5) default)).1) 0) : Int) != 1) with
      | true =>
       have q2 := bne_iff_ne.1 h2
       have e := Eq.refl (S32_2 a0 (v4, v5)); conv at e => rhs; simp only [S32_2, h0, h1, h2, cond_true, cond_false]
       rw [loopF_s, e]
       exact rt (t2 ++ [.d h2]) [] [] hcx (by kernel_rfl)
      | false =>
       have q2 := bne_eq_false_iff_eq.1 h2
       let t3 : List (St Tryz.prog) := (t2 ++ [.d h2, .u 0, .T, .i 1 3 (by decide), .mG K91 iv (F69 (a0.1, a0.2)) ((F70 (a0.2.getD (Int.toNat v5) default)).2.1) 0])
       cases h3 : (((mget (F69 (a0.1, a0.2)) ((F70 (a0.2.getD (Int.toNat v5) default)).2.1) 0) : Int) != 1) with
       | true =>
        have q3 := bne_iff_ne.1 h3
        have e := Eq.refl (S32_2 a0 (v4, v5)); conv at e => rhs; simp only [S32_2, h0, h1, h2, h3, cond_true, cond_false]
        rw [loopF_s, e]
        exact rt (t3 ++ [.d h3]) [] [] hcx (by kernel_rfl)
       | false =>
        have q3 := bne_eq_false_iff_eq.1 h3
        let t4 : List (St Tryz.prog) := (t3 ++ [.d h3, .c [] (C71 (F70 (a0.2.getD (Int.toNat v5) default)).2.1), .mG K91 iv (F69 (a0.1, a0.2)) (F71 (F70 (a0.2.getD (Int.toNat v5) default)).2.1) 0])
        cases h4 : (((mget (F69 (a0.1, a0.2)) (F71 (F70 (a0.2.getD (Int.toNat v5) default)).2.1) 0) : Int) != 1) with
        | true =>
         have q4 := bne_iff_ne.1 h4
         have e := Eq.refl (S32_2 a0 (v4, v5)); conv at e => rhs; simp only [S32_2, h0, h1, h2, h3, h4, cond_true, cond_false]
         rw [loopF_s, e]
         exact rt (t4 ++ [.d h4]) [] [] hcx (by kernel_rfl)
        | false =>
         have q4 := bne_eq_false_iff_eq.1 h4
         let t5 : List (St Tryz.prog) := (t4 ++ [.d h4, .u 0, .T, .i 2 3 (by decide), .mG K91 iv (F69 (a0.1, a0.2)) ((F70 (a0.2.getD (Int.toNat v5) default)).2.2) 0])
         cases h5 : (((mget (F69 (a0.1, a0.2)) ((F70 (a0.2.getD (Int.toNat v5) default)).2.2) 0) : Int) != 1) with
         | true =>
          have q5 := bne_iff_ne.1 h5
          have e := Eq.refl (S32_2 a0 (v4, v5)); conv at e => rhs; simp only [S32_2, h0, h1, h2, h3, h4, h5, cond_true, cond_false]
          rw [loopF_s, e]
          exact rt (t5 ++ [.d h5]) [] [] hcx (by kernel_rfl)
         | false =>
          have q5 := bne_eq_false_iff_eq.1 h5
          let t6 : List (St Tryz.prog) := (t5 ++ [.d h5, .c [] (C71 (F70 (a0.2.getD (Int.toNat v5) default)).2.2), .mG K91 iv (F69 (a0.1, a0.2)) (F71 (F70 (a0.2.getD (Int.toNat v5) default)).2.2) 0])
          cases h6 : (((mget (F69 (a0.1, a0.2)) (F71 (F70 (a0.2.getD (Int.toNat v5) default)).2.2) 0) : Int) != 1) with
          | true =>
           have q6 := bne_iff_ne.1 h6
           have e := Eq.refl (S32_2 a0 (v4, v5)); conv at e => rhs; simp only [S32_2, h0, h1, h2, h3, h4, h5, h6, cond_true, cond_false]
           rw [loopF_s, e]
           exact rt (t6 ++ [.d h6]) [] [] hcx (by kernel_rfl)
          | false =>
           have q6 := bne_eq_false_iff_eq.1 h6
           have e := Eq.refl (S32_2 a0 (v4, v5)); conv at e => rhs; simp only [S32_2, h0, h1, h2, h3, h4, h5, h6, cond_true, cond_false]
           rw [loopF_inl e]
           refine ba (t6 ++ [.d h6, .u 0, .F]) [] [1, 4, 10, 62, 63, 64] [2, 3, 4] hcx (m := n) B32_2 (K32_2) (st32_2 a0 (flat c4 v4) (v4.length) (W (v5 + 1))) (by kernel_rfl) ?_
           have z0 : (W (v5 + 1)) = (v5 + 1) := W_eq (by omega) (by omega)
           rw [z0]
           exact ih v4 (v5 + 1) (by refine ⟨?_, ?_, ?_, ?_, ?_⟩ <;> first | omega | assumption | exact okTo_0 | exact hi.2.1 | exact hi.2.2.1 | exact okTo_le hi.2.2.1 (by omega) | exact okTo_s hi.2.2.1 hfo | exact okTo_s hi.2.2.1 (by refine ⟨⟨?_, ?_⟩, ⟨?_, ?_⟩, ?_, ?_⟩ <;> omega) | (simp only [List.length_replicate, List.length_set]; omega)) (by (try simp only [List.length_append, List.length_cons, List.length_nil, Int.toNat_zero]); omega)
    | false =>
     have q0 := of_decide_eq_false h0
     have e := Eq.refl (S32_2 a0 (v4, v5)); conv at e => rhs; simp only [S32_2, h0, cond_true, cond_false]
     rw [loopF_s, e]
     refine en [.d h0] [] [1, 86, 87, 88] [2, 3] hcx B32_4 (K32_4) (st32_4 a0 (flat c4 v4) (v4.length) ((v4.length : Nat) : Int) 0) (Int.toNat (((v4.length : Nat) : Int) - 0) + 1) (by kernel_rfl) ?_
     exact L32_4 a0 l0_1 l0_2 hcx (Int.toNat (((v4.length : Nat) : Int) - 0) + 1) v4 ((v4.length : Nat) : Int) 0 (by refine ⟨?_, ?_, ?_, ?_, ?_, ?_⟩ <;> first | omega | assumption | exact okTo_0 | exact hi.2.1 | exact hi.2.2.1 | exact okTo_le hi.2.2.1 (by omega) | exact okTo_s hi.2.2.1 hfo | exact okTo_s hi.2.2.1 (by refine ⟨⟨?_, ?_⟩, ⟨?_, ?_⟩, ?_, ?_⟩ <;> omega) | (simp only [List.length_replicate, List.length_set]; omega)) (by (try simp only [List.length_append, List.length_cons, List.length_nil, Int.toNat_zero]); omega)

set_option maxHeartbeats 4000000 in
theorem L32_0 (a0 : (List (Int × Int × Int)) × List (Int × Int × Int)) (l0_1 : a0.1.length ≤ 9223372036854775807) (l0_2 : a0.2.length ≤ 9223372036854775807) {cx : Cx} (hcx : cx.base = 2) : ∀ (n : Nat) (v1 : List (Bool)) (v2 : Int), (0 ≤ v2) ∧ (v1.length = a0.1.length) ∧ (okTo a0 v2) ∧ (v2 ≤ a0.2.length) ∧ (a0.1.length ≤ 64) ∧ (a0.2.length ≤ 96) → Int.toNat (((a0.2.length : Nat) : Int) - v2) < n → Aw.Good Tryz.prog none 9 (bodyPost Tryz.prog Tryz.f32 (RR cx (iv (loopF (S32_0 a0) n (v1, v2))) [] [])) cx [] (.l B32_0 n :: K32_0) (st32_0 a0 (flat c4 v1) v1.length v2) := by
  intro n
  induction n with
  | zero => intro v1 v2 hi hn; exact absurd hn (Nat.not_lt_zero _)
  | succ n ih =>
    intro v1 v2 hi hn
    refine good_round ?_
    try have hfo : inF a0.1.length (a0.2.getD (Int.toNat v2) default) := face_in (m := a0) h1 (by omega)
    try have hfo2 := hfo
    try obtain ⟨⟨hf1, hf2⟩, ⟨hf3, hf4⟩, hf5, hf6⟩ := hfo2
    cases h0 : (decide ((v2 : Int) < ((a0.2.length : Nat) : Int))) with
    | true =>
     have q0 := of_decide_eq_true h0
     try have hfo : inF a0.1.length (a0.2.getD (Int.toNat v2) default) := face_in (m := a0) h1 (by omega)
     let t1 : List (St Tryz.prog) := [.d h0, .i v2 (a0.2.length), .L c85_len a0.2 v2 0 3, .c [0, 1] (C68 (a0.1, a0.2) (a0.2.getD (Int.toNat v2) default) (by (try simp only [List.length_append, List.length_cons, List.length_nil, Int.toNat_zero]); omega) (by (try simp only [List.length_append, List.length_cons, List.length_nil, Int.toNat_zero]); omega) (by (try simp only [List.length_append, List.length_cons, List.length_nil, Int.toNat_zero]); omega))]
     cases h1 : (((F68 (a0.1, a0.2) (a0.2.getD (Int.toNat v2) default)) : Int) != 0) with
     | true =>
      have q1 := bne_iff_ne.1 h1
      try have hfo : inF a0.1.length (a0.2.getD (Int.toNat v2) default) := face_in (m := a0) h1 (by omega)
      have e := Eq.refl (S32_0 a0 (v1, v2)); conv at e => rhs; simp only [S32_0, h0, h1, cond_true, cond_false]
      rw [loopF_s, e]
      exact rt (t1 ++ [.d h1]) [] [] hcx (by kernel_rfl)
     | false =>
      have q1 := bne_eq_false_iff_eq.1 h1
      try have hfo : inF a0.1.length (a0.2.getD (Int.toNat v2) default) := face_in (m := a0) h1 (by omega)
      have e := Eq.refl (S32_0 a0 (v1, v2)); conv at e => rhs; simp only [S32_0, h0, h1, cond_true, cond_false]
      rw [loopF_inl e]
      refine ba (t1 ++ [.d h1, .u 200, .T, .i 0 3 (by decide), .i ((a0.2.getD (Int.toNat v2) default).1) (v1.length), .p (show ((0 + Int.toNat (a0.2.getD (Int.toNat v2) default).1 * 1) + 1 ≤ (flat c4 v1).length) from (flat_setl c4_len (by first | omega | (simp only [List.length_set]; omega)) (i := Int.toNat (a0.2.getD (Int.toNat v2) default).1) (o := 0) (n := 1) (Nat.le_of_ble_eq_true rfl))), .u 0, .T, .i 1 3 (by decide), .i ((a0.2.getD (Int.toNat v2) default).2.1) (v1.length), .p (show ((0 + Int.toNat (a0.2.getD (Int.toNat v2) default).2.1 * 1) + 1 ≤ (splice (flat c4 v1) (0 + Int.toNat (a0.2.getD (Int.toNat v2) default).1 * 1) [(.v (.bool true))]).length) from (by rw [show (splice (flat c4 v1) (0 + Int.toNat (a0.2.getD (Int.toNat v2) default).1 * 1) [(.v (.bool true))]) = flat c4 (v1.set (Int.toNat (a0.2.getD (Int.toNat v2) default).1) true) from (flat_set c4_len (by first | omega | (simp only [List.length_set]; omega)) (i := Int.toNat (a0.2.getD (Int.toNat v2) default).1) (o := 0) (d := default) (y := true) (Nat.le_of_ble_eq_true rfl) rfl)]; exact flat_setl c4_len (by first | omega | (simp only [List.length_set]; omega)) (i := Int.toNat (a0.2.getD (Int.toNat v2) default).2.1) (o := 0) (n := 1) (Nat.le_of_ble_eq_true rfl))), .u 0, .T, .i 2 3 (by decide), .i ((a0.2.getD (Int.toNat v2) default).2.2) (v1.length), .p (show ((0 + Int.toNat (a0.2.getD (Int.toNat v2) default).2.2 * 1) + 1 ≤ (splice (splice (flat c4 v1) (0 + Int.toNat (a0.2.getD (Int.toNat v2) default).1 * 1) [(.v (.bool true))]) (0 + Int.toNat (a0.2.getD (Int.toNat v2) default).2.1 * 1) [(.v (.bool true))]).length) from (by rw [show (splice (splice (flat c4 v1) (0 + Int.toNat (a0.2.getD (Int.toNat v2) default).1 * 1) [(.v (.bool true))]) (0 + Int.toNat (a0.2.getD (Int.toNat v2) default).2.1 * 1) [(.v (.bool true))]) = flat c4 ((v1.set (Int.toNat (a0.2.getD (Int.toNat v2) default).1) true).set (Int.toNat (a0.2.getD (Int.toNat v2) default).2.1) true) from (by rw [show (splice (flat c4 v1) (0 + Int.toNat (a0.2.getD (Int.toNat v2) default).1 * 1) [(.v (.bool true))]) = flat c4 (v1.set (Int.toNat (a0.2.getD (Int.toNat v2) default).1) true) from (flat_set c4_len (by first | omega | (simp only [List.length_set]; omega)) (i := Int.toNat (a0.2.getD (Int.toNat v2) default).1) (o := 0) (d := default) (y := true) (Nat.le_of_ble_eq_true rfl) rfl)]; exact flat_set c4_len (by first | omega | (simp only [List.length_set]; omega)) (i := Int.toNat (a0.2.getD (Int.toNat v2) default).2.1) (o := 0) (d := default) (y := true) (Nat.le_of_ble_eq_true rfl) rfl)]; exact flat_setl c4_len (by first | omega | (simp only [List.length_set]; omega)) (i := Int.toNat (a0.2.getD (Int.toNat v2) default).2.2) (o := 0) (n := 1) (Nat.le_of_ble_eq_true rfl))), .u 0, .F]) [] [1, 4, 38, 39, 40] [2, 3] hcx (m := n) B32_0 (K32_0) (st32_0 a0 (splice (splice (splice (flat c4 v1) (0 + Int.toNat (a0.2.getD (Int.toNat v2) default).1 * 1) [(.v (.bool true))]) (0 + Int.toNat (a0.2.getD (Int.toNat v2) default).2.1 * 1) [(.v (.bool true))]) (0 + Int.toNat (a0.2.getD (Int.toNat v2) default).2.2 * 1) [(.v (.bool true))]) (v1.length) (W (v2 + 1))) (by kernel_rfl) ?_
      have z0 : (W (v2 + 1)) = (v2 + 1) := W_eq (by omega) (by omega)
      have z1 : (splice (splice (splice (flat c4 v1) (0 + Int.toNat (a0.2.getD (Int.toNat v2) default).1 * 1) [(.v (.bool true))]) (0 + Int.toNat (a0.2.getD (Int.toNat v2) default).2.1 * 1) [(.v (.bool true))]) (0 + Int.toNat (a0.2.getD (Int.toNat v2) default).2.2 * 1) [(.v (.bool true))]) = flat c4 (((v1.set (Int.toNat (a0.2.getD (Int.toNat v2) default).1) true).set (Int.toNat (a0.2.getD (Int.toNat v2) default).2.1) true).set (Int.toNat (a0.2.getD (Int.toNat v2) default).2.2) true) := (by rw [show (splice (splice (flat c4 v1) (0 + Int.toNat (a0.2.getD (Int.toNat v2) default).1 * 1) [(.v (.bool true))]) (0 + Int.toNat (a0.2.getD (Int.toNat v2) default).2.1 * 1) [(.v (.bool true))]) = flat c4 ((v1.set (Int.toNat (a0.2.getD (Int.toNat v2) default).1) true).set (Int.toNat (a0.2.getD (Int.toNat v2) default).2.1) true) from (by rw [show (splice (flat c4 v1) (0 + Int.toNat (a0.2.getD (Int.toNat v2) default).1 * 1) [(.v (.bool true))]) = flat c4 (v1.set (Int.toNat (a0.2.getD (Int.toNat v2) default).1) true) from (flat_set c4_len (by first | omega | (simp only [List.length_set]; omega)) (i := Int.toNat (a0.2.getD (Int.toNat v2) default).1) (o := 0) (d := default) (y := true) (Nat.le_of_ble_eq_true rfl) rfl)]; exact flat_set c4_len (by first | omega | (simp only [List.length_set]; omega)) (i := Int.toNat (a0.2.getD (Int.toNat v2) default).2.1) (o := 0) (d := default) (y := true) (Nat.le_of_ble_eq_true rfl) rfl)]; exact flat_set c4_len (by first | omega | (simp only [List.length_set]; omega)) (i := Int.toNat (a0.2.getD (Int.toNat v2) default).2.2) (o := 0) (d := default) (y := true) (Nat.le_of_ble_eq_true rfl) rfl)
      have z2 : v1.length = (((v1.set (Int.toNat (a0.2.getD (Int.toNat v2) default).1) true).set (Int.toNat (a0.2.getD (Int.toNat v2) default).2.1) true).set (Int.toNat (a0.2.getD (Int.toNat v2) default).2.2) true).length := by simp
      rw [z0, z1, z2]
      exact ih (((v1.set (Int.toNat (a0.2.getD (Int.toNat v2) default).1) true).set (Int.toNat (a0.2.getD (Int.toNat v2) default).2.1) true).set (Int.toNat (a0.2.getD (Int.toNat v2) default).2.2) true) (v2 + 1) (by refine ⟨?_, ?_, ?_, ?_, ?_, ?_⟩ <;> first | omega | assumption | exact okTo_0 | exact hi.2.1 | exact hi.2.2.1 | exact okTo_le hi.2.2.1 (by omega) | exact okTo_s hi.2.2.1 hfo | exact okTo_s hi.2.2.1 (by refine ⟨⟨?_, ?_⟩, ⟨?_, ?_⟩, ?_, ?_⟩ <;> omega) | (simp only [List.length_replicate, List.length_set]; omega)) (by (try simp only [List.length_append, List.length_cons, List.length_nil, Int.toNat_zero]); omega)
    | false =>
     have q0 := of_decide_eq_false h0
     try have hfo : inF a0.1.length (a0.2.getD (Int.toNat v2) default) := face_in (m := a0) h1 (by omega)
     have e := Eq.refl (S32_0 a0 (v1, v2)); conv at e => rhs; simp only [S32_0, h0, cond_true, cond_false]
     rw [loopF_s, e]
     refine en [.d h0, .c [0, 1] (C69 (a0.1, a0.2) (by (try simp only [List.length_append, List.length_cons, List.length_nil, Int.toNat_zero]); omega) (by (try simp only [List.length_append, List.length_cons, List.length_nil, Int.toNat_zero]); omega))] [] [1, 4, 10, 62, 63, 64] [2, 3, 4] hcx B32_2 (K32_2) (st32_2 a0 (flat c4 v1) (v1.length) 0) (Int.toNat (((a0.2.length : Nat) : Int) - 0) + 1) (by kernel_rfl) ?_
     exact L32_2 a0 l0_1 l0_2 hcx (Int.toNat (((a0.2.length : Nat) : Int) - 0) + 1) v1 0 (by refine ⟨?_, ?_, ?_, ?_, ?_⟩ <;> first | omega | assumption | exact okTo_0 | exact hi.2.1 | exact hi.2.2.1 | exact okTo_le hi.2.2.1 (by omega) | exact okTo_s hi.2.2.1 hfo | exact okTo_s hi.2.2.1 (by refine ⟨⟨?_, ?_⟩, ⟨?_, ?_⟩, ?_, ?_⟩ <;> omega) | (simp only [List.length_replicate, List.length_set]; omega)) (by (try simp only [List.length_append, List.length_cons, List.length_nil, Int.toNat_zero]); omega)

def F32 (a0 : (List (Int × Int × Int)) × List (Int × Int × Int)) : Int :=
  (bif (decide ((((a0.1.length : Nat) : Int) : Int) > 64)) then
   4
  else
   (bif (!(F66 ((a0.2.length : Nat) : Int) 1 96)) then
    4
   else
    (bif (((F67 (a0.1, a0.2)) : Int) != 0) then
     (F67 (a0.1, a0.2))
    else
     (loopF (S32_0 a0) (Int.toNat (((a0.2.length : Nat) : Int) - 0) + 1) ((List.replicate (Int.toNat ((a0.1.length : Nat) : Int)) false), 0)))))

theorem C32 (a0 : (List (Int × Int × Int)) × List (Int × Int × Int)) (l0_1 : a0.1.length ≤ 9223372036854775807) (l0_2 : a0.2.length ≤ 9223372036854775807) : Con Tryz.prog 32 [(.a [(.s 0 0 a0.1.length 3), (.s 1 0 a0.2.length 3)])] [(.live false true (flat c27 a0.1)), (.live false true (flat c85 a0.2))] (iv (F32 a0)) [] := by
  refine con_s Tryz.func32 (by kernel_rfl) fun cx hcx => ?_
  try have hl96 := from_p h1
  cases h0 : (decide ((((a0.1.length : Nat) : Int) : Int) > 64)) with
  | true =>
   have q0 := of_decide_eq_true h0
   try have hl96 := from_p h1
   have e := Eq.refl (F32 a0); conv at e => rhs; simp only [F32, h0, cond_true, cond_false]
   rw [e]
   exact rt [.d h0] [] [] hcx (by kernel_rfl)
  | false =>
   have q0 := of_decide_eq_false h0
   try have hl96 := from_p h1
   let t1 : List (St Tryz.prog) := [.d h0, .c [] (C66 ((a0.2.length : Nat) : Int) 1 96)]
   cases h1 : (!(F66 ((a0.2.length : Nat) : Int) 1 96)) with
   | true =>
    try have hl96 := from_p h1
    have e := Eq.refl (F32 a0); conv at e => rhs; simp only [F32, h0, h1, cond_true, cond_false]
    rw [e]
    exact rt (t1 ++ [.d h1]) [] [] hcx (by kernel_rfl)
   | false =>
    try have hl96 := from_p h1
    let t2 : List (St Tryz.prog) := (t1 ++ [.d h1, .c [0, 1] (C67 (a0.1, a0.2) (by (try simp only [List.length_append, List.length_cons, List.length_nil, Int.toNat_zero]); omega) (by (try simp only [List.length_append, List.length_cons, List.length_nil, Int.toNat_zero]); omega))])
    cases h2 : (((F67 (a0.1, a0.2)) : Int) != 0) with
    | true =>
     have q2 := bne_iff_ne.1 h2
     try have hl96 := from_p h1
     have e := Eq.refl (F32 a0); conv at e => rhs; simp only [F32, h0, h1, h2, cond_true, cond_false]
     rw [e]
     exact rt (t2 ++ [.d h2]) [] [] hcx (by kernel_rfl)
    | false =>
     have q2 := bne_eq_false_iff_eq.1 h2
     try have hl96 := from_p h1
     have e := Eq.refl (F32 a0); conv at e => rhs; simp only [F32, h0, h1, h2, cond_true, cond_false]
     rw [e]
     refine en (t2 ++ [.d h2, .Z c4 false [(.v (.bool false))] ((a0.1.length : Nat) : Int) 1]) [] [1, 4, 38, 39, 40] [2, 3] hcx B32_0 (K32_0) (st32_0 a0 (flat c4 (List.replicate (Int.toNat ((a0.1.length : Nat) : Int)) false)) (Int.toNat ((a0.1.length : Nat) : Int)) 0) (Int.toNat (((a0.2.length : Nat) : Int) - 0) + 1) (by kernel_rfl) ?_
     have q := L32_0 a0 l0_1 l0_2 hcx (Int.toNat (((a0.2.length : Nat) : Int) - 0) + 1) (List.replicate (Int.toNat ((a0.1.length : Nat) : Int)) false) 0 (by refine ⟨?_, ?_, ?_, ?_, ?_, ?_⟩ <;> first | omega | assumption | exact okTo_0 | exact hi.2.1 | exact hi.2.2.1 | exact okTo_le hi.2.2.1 (by omega) | exact okTo_s hi.2.2.1 hfo | exact okTo_s hi.2.2.1 (by refine ⟨⟨?_, ?_⟩, ⟨?_, ?_⟩, ?_, ?_⟩ <;> omega) | (simp only [List.length_replicate, List.length_set]; omega)) (by (try simp only [List.length_append, List.length_cons, List.length_nil, Int.toNat_zero]); omega)
     simp only [List.length_replicate] at q
     exact q

def F78 (a0 : (List (Int × Int × Int)) × List (Int × Int × Int)) (a1 : Int) : (Int × Int × Int) × (Int × Int × Int) × Int × Int × Int :=
  ((a0.1.getD (Int.toNat (a0.2.getD (Int.toNat a1) default).1) default), (a0.1.getD (Int.toNat (a0.2.getD (Int.toNat a1) default).2.1) default), (a0.1.getD (Int.toNat (a0.2.getD (Int.toNat a1) default).2.2) default))

theorem C78 (a0 : (List (Int × Int × Int)) × List (Int × Int × Int)) (a1 : Int) (l0_1 : a0.1.length ≤ 9223372036854775807) (l0_2 : a0.2.length ≤ 9223372036854775807) (hi : 0 ≤ a1 ∧ a1 < (a0.2.length : Int)) (hf : inF a0.1.length (a0.2.getD (Int.toNat a1) default)) : Con Tryz.prog 78 [(.a [(.s 0 0 a0.1.length 3), (.s 1 0 a0.2.length 3)]), (iv a1)] [(.live false true (flat c27 a0.1)), (.live false true (flat c85 a0.2))] (.a (k9 (F78 a0 a1))) [] := by
  refine con_s Tryz.func78 (by kernel_rfl) fun cx hcx => ?_
  have e := Eq.refl (F78 a0 a1); conv at e => rhs; simp only [F78]
  rw [e]
  exact rt [.i a1 (a0.2.length), .L c85_len a0.2 a1 0 3, .i 0 3 (by decide), .i ((a0.2.getD (Int.toNat a1) default).1) (a0.1.length), .L c27_len a0.1 (a0.2.getD (Int.toNat a1) default).1 0 3, .i 1 3 (by decide), .i ((a0.2.getD (Int.toNat a1) default).2.1) (a0.1.length), .L c27_len a0.1 (a0.2.getD (Int.toNat a1) default).2.1 0 3, .i 2 3 (by decide), .i ((a0.2.getD (Int.toNat a1) default).2.2) (a0.1.length), .L c27_len a0.1 (a0.2.getD (Int.toNat a1) default).2.2 0 3] [] [] hcx (by kernel_rfl)

noncomputable def B79_0 : Code := (loopAtD [1, 1, 0, 1] [] (bodyOf Tryz.f79) []).1
noncomputable def K79_0 : List K := (loopAtD [1, 1, 0, 1] [] (bodyOf Tryz.f79) []).2

def st79_0 (a0 : (List (Int × Int × Int)) × List (Int × Int × Int)) (a1 : Int) (a2 : Int) (v1 : Int) (v2 : Int) : LS := ⟨slN 46 [(1, (iv a1)), (2, (iv a2)), (3, (.p 2 0)), (7, (iv v1)), (8, (iv v2))], [(.live false true (flat c27 a0.1)), (.live false true (flat c85 a0.2)), (.live true false [(.s 0 0 a0.1.length 3), (.s 1 0 a0.2.length 3)])]⟩

def S79_0 (a0 : (List (Int × Int × Int)) × List (Int × Int × Int)) (a1 : Int) (a2 : Int) : Int × Int → (Int × Int) ⊕ (Int)
  | (v1, v2) =>
   (bif (decide ((v2 : Int) < ((a0.2.length : Nat) : Int))) then
    (bif (((a0.2.getD (Int.toNat v2) default).1 : Int) == a1) then
     (bif (((a0.2.getD (Int.toNat v2) default).2.1 : Int) == a2) then
      (bif (((a0.2.getD (Int.toNat v2) default).2.1 : Int) == a1) then
       (bif (((a0.2.getD (Int.toNat v2) default).2.2 : Int) == a2) then
        (bif (((a0.2.getD (Int.toNat v2) default).2.2 : Int) == a1) then
         (bif (((a0.2.getD (Int.toNat v2) default).1 : Int) == a2) then
          (.inl ((W ((W ((W (v1 + 1)) + 1)) + 1)), (v2 + 1)))
         else
          (.inl ((W ((W (v1 + 1)) + 1)), (v2 + 1))))
        else
         (.inl ((W ((W (v1 + 1)) + 1)), (v2 + 1))))
       else
        (bif (((a0.2.getD (Int.toNat v2) default).2.2 : Int) == a1) then
         (bif (((a0.2.getD (Int.toNat v2) default).1 : Int) == a2) then
          (.inl ((W ((W (v1 + 1)) + 1)), (v2 + 1)))
         else
          (.inl ((W (v1 + 1)), (v2 + 1))))
        else
         (.inl ((W (v1 + 1)), (v2 + 1)))))
      else
       (bif (((a0.2.getD (Int.toNat v2) default).2.2 : Int) == a1) then
        (bif (((a0.2.getD (Int.toNat v2) default).1 : Int) == a2) then
         (.inl ((W ((W (v1 + 1)) + 1)), (v2 + 1)))
        else
         (.inl ((W (v1 + 1)), (v2 + 1))))
       else
        (.inl ((W (v1 + 1)), (v2 + 1)))))
     else
      (bif (((a0.2.getD (Int.toNat v2) default).2.1 : Int) == a1) then
       (bif (((a0.2.getD (Int.toNat v2) default).2.2 : Int) == a2) then
        (bif (((a0.2.getD (Int.toNat v2) default).2.2 : Int) == a1) then
         (bif (((a0.2.getD (Int.toNat v2) default).1 : Int) == a2) then
          (.inl ((W ((W (v1 + 1)) + 1)), (v2 + 1)))
         else
          (.inl ((W (v1 + 1)), (v2 + 1))))
        else
         (.inl ((W (v1 + 1)), (v2 + 1))))
       else
        (bif (((a0.2.getD (Int.toNat v2) default).2.2 : Int) == a1) then
         (bif (((a0.2.getD (Int.toNat v2) default).1 : Int) == a2) then
          (.inl ((W (v1 + 1)), (v2 + 1)))
         else
          (.inl (v1, (v2 + 1))))
        else
         (.inl (v1, (v2 + 1)))))
      else
       (bif (((a0.2.getD (Int.toNat v2) default).2.2 : Int) == a1) then
        (bif (((a0.2.getD (Int.toNat v2) default).1 : Int) == a2) then
         (.inl ((W (v1 + 1)), (v2 + 1)))
        else
         (.inl (v1, (v2 + 1))))
       else
        (.inl (v1, (v2 + 1))))))
    else
     (bif (((a0.2.getD (Int.toNat v2) default).2.1 : Int) == a1) then
      (bif (((a0.2.getD (Int.toNat v2) default).2.2 : Int) == a2) then
       (bif (((a0.2.getD (Int.toNat v2) default).2.2 : Int) == a1) then
        (bif (((a0.2.getD (Int.toNat v2) default).1 : Int) == a2) then
         (.inl ((W ((W (v1 + 1)) + 1)), (v2 + 1)))
        else
         (.inl ((W (v1 + 1)), (v2 + 1))))
       else
        (.inl ((W (v1 + 1)), (v2 + 1))))
      else
       (bif (((a0.2.getD (Int.toNat v2) default).2.2 : Int) == a1) then
        (bif (((a0.2.getD (Int.toNat v2) default).1 : Int) == a2) then
         (.inl ((W (v1 + 1)), (v2 + 1)))
        else
         (.inl (v1, (v2 + 1))))
       else
        (.inl (v1, (v2 + 1)))))
     else
      (bif (((a0.2.getD (Int.toNat v2) default).2.2 : Int) == a1) then
       (bif (((a0.2.getD (Int.toNat v2) default).1 : Int) == a2) then
        (.inl ((W (v1 + 1)), (v2 + 1)))
       else
        (.inl (v1, (v2 + 1))))
      else
       (.inl (v1, (v2 + 1))))))
   else
    (.inr v1))

set_option maxHeartbeats 4000000 in
theorem L79_0 (a0 : (List (Int × Int × Int)) × List (Int × Int × Int)) (a1 : Int) (a2 : Int) (l0_1 : a0.1.length ≤ 9223372036854775807) (l0_2 : a0.2.length ≤ 9223372036854775807) {cx : Cx} (hcx : cx.base = 2) : ∀ (n : Nat) (v1 : Int) (v2 : Int), 0 ≤ v2 → Int.toNat (((a0.2.length : Nat) : Int) - v2) < n → Aw.Good Tryz.prog none 9 (bodyPost Tryz.prog Tryz.f79 (RR cx (iv (loopF (S79_0 a0 a1 a2) n (v1, v2))) [] [])) cx [] (.l B79_0 n :: K79_0) (st79_0 a0 a1 a2 v1 v2) := by
  intro n
  induction n with
  | zero => intro v1 v2 hi hn; exact absurd hn (Nat.not_lt_zero _)
  | succ n ih =>
    intro v1 v2 hi hn
    refine good_round ?_
    cases h0 : (decide ((v2 : Int) < ((a0.2.length : Nat) : Int))) with
    | true =>
     have q0 := of_decide_eq_true h0
     let t1 : List (St Tryz.prog) := [.d h0, .u 200, .T, .i v2 (a0.2.length), .i 0 3 (by decide), .L c85_len a0.2 v2 0 1]
     cases h1 : (((a0.2.getD (Int.toNat v2) default).1 : Int) == a1) with
     | true =>
      have q1 := eq_of_beq h1
      let t2 : List (St Tryz.prog) := (t1 ++ [.d h1, .p (show (3 : Int) ≠ 0 from by decide), .i v2 (a0.2.length), .i 1 3 (by decide), .L c85_len a0.2 v2 1 1])
      cases h2 : (((a0.2.getD (Int.toNat v2) default).2.1 : Int) == a2) with
      | true =>
       have q2 := eq_of_beq h2
       let t3 : List (St Tryz.prog) := (t2 ++ [.d h2, .u 0, .T, .i v2 (a0.2.length), .i 1 3 (by decide), .L c85_len a0.2 v2 1 1])
       cases h3 : (((a0.2.getD (Int.toNat v2) default).2.1 : Int) == a1) with
       | true =>
        have q3 := eq_of_beq h3
        let t4 : List (St Tryz.prog) := (t3 ++ [.d h3, .p (show (3 : Int) ≠ 0 from by decide), .i v2 (a0.2.length), .i 2 3 (by decide), .L c85_len a0.2 v2 2 1])
        cases h4 : (((a0.2.getD (Int.toNat v2) default).2.2 : Int) == a2) with
        | true =>
         have q4 := eq_of_beq h4
         let t5 : List (St Tryz.prog) := (t4 ++ [.d h4, .u 0, .T, .i v2 (a0.2.length), .i 2 3 (by decide), .L c85_len a0.2 v2 2 1])
         cases h5 : (((a0.2.getD (Int.toNat v2) default).2.2 : Int) == a1) with
         | true =>
          have q5 := eq_of_beq h5
          let t6 : List (St Tryz.prog) := (t5 ++ [.d h5, .p (show (3 : Int) ≠ 0 from by decide), .i v2 (a0.2.length), .i 0 3 (by decide), .L c85_len a0.2 v2 0 1])
          cases h6 : (((a0.2.getD (Int.toNat v2) default).1 : Int) == a2) with
          | true =>
           have q6 := eq_of_beq h6
           have e := Eq.refl (S79_0 a0 a1 a2 (v1, v2)); conv at e => rhs; simp only [S79_0, h0, h1, h2, h3, h4, h5, h6, cond_true, cond_false]
           rw [loopF_inl e]
           refine ba (t6 ++ [.d h6, .u 0, .F]) [] [1, 2, 3, 7, 8] [2] hcx (m := n) B79_0 (K79_0) (st79_0 a0 a1 a2 (W ((W ((W (v1 + 1)) + 1)) + 1)) (W (v2 + 1))) (by kernel_rfl) ?_
           have z0 : (W (v2 + 1)) = (v2 + 1) := W_eq (by omega) (by omega)
           rw [z0]
           exact ih (W ((W ((W (v1 + 1)) + 1)) + 1)) (v2 + 1) (by (try simp only [List.length_append, List.length_cons, List.length_nil, Int.toNat_zero]); omega) (by (try simp only [List.length_append, List.length_cons, List.length_nil, Int.toNat_zero]); omega)
          | false =>
           have q6 := ne_of_beq_false h6
           have e := Eq.refl (S79_0 a0 a1 a2 (v1, v2)); conv at e => rhs; simp only [S79_0, h0, h1, h2, h3, h4, h5, h6, cond_true, cond_false]
           rw [loopF_inl e]
           refine ba (t6 ++ [.d h6, .u 0, .F]) [] [1, 2, 3, 7, 8] [2] hcx (m := n) B79_0 (K79_0) (st79_0 a0 a1 a2 (W ((W (v1 + 1)) + 1)) (W (v2 + 1))) (by kernel_rfl) ?_
           have z0 : (W (v2 + 1)) = (v2 + 1) := W_eq (by omega) (by omega)
           rw [z0]
           exact ih (W ((W (v1 + 1)) + 1)) (v2 + 1) (by (try simp only [List.length_append, List.length_cons, List.length_nil, Int.toNat_zero]); omega) (by (try simp only [List.length_append, List.length_cons, List.length_nil, Int.toNat_zero]); omega)
         | false =>
          have q5 := ne_of_beq_false h5
          have e := Eq.refl (S79_0 a0 a1 a2 (v1, v2)); conv at e => rhs; simp only [S79_0, h0, h1, h2, h3, h4, h5, cond_true, cond_false]
          rw [loopF_inl e]
          refine ba (t5 ++ [.d h5, .u 0, .F]) [] [1, 2, 3, 7, 8] [2] hcx (m := n) B79_0 (K79_0) (st79_0 a0 a1 a2 (W ((W (v1 + 1)) + 1)) (W (v2 + 1))) (by kernel_rfl) ?_
          have z0 : (W (v2 + 1)) = (v2 + 1) := W_eq (by omega) (by omega)
          rw [z0]
          exact ih (W ((W (v1 + 1)) + 1)) (v2 + 1) (by (try simp only [List.length_append, List.length_cons, List.length_nil, Int.toNat_zero]); omega) (by (try simp only [List.length_append, List.length_cons, List.length_nil, Int.toNat_zero]); omega)
        | false =>
         have q4 := ne_of_beq_false h4
         let t5 : List (St Tryz.prog) := (t4 ++ [.d h4, .u 0, .T, .i v2 (a0.2.length), .i 2 3 (by decide), .L c85_len a0.2 v2 2 1])
         cases h5 : (((a0.2.getD (Int.toNat v2) default).2.2 : Int) == a1) with
         | true =>
          have q5 := eq_of_beq h5
          let t6 : List (St Tryz.prog) := (t5 ++ [.d h5, .p (show (3 : Int) ≠ 0 from by decide), .i v2 (a0.2.length), .i 0 3 (by decide), .L c85_len a0.2 v2 0 1])
          cases h6 : (((a0.2.getD (Int.toNat v2) default).1 : Int) == a2) with
          | true =>
           have q6 := eq_of_beq h6
           have e := Eq.refl (S79_0 a0 a1 a2 (v1, v2)); conv at e => rhs; simp only [S79_0, h0, h1, h2, h3, h4, h5, h6, cond_true, cond_false]
           rw [loopF_inl e]
           refine ba (t6 ++ [.d h6, .u 0, .F]) [] [1, 2, 3, 7, 8] [2] hcx (m := n) B79_0 (K79_0) (st79_0 a0 a1 a2 (W ((W (v1 + 1)) + 1)) (W (v2 + 1))) (by kernel_rfl) ?_
           have z0 : (W (v2 + 1)) = (v2 + 1) := W_eq (by omega) (by omega)
           rw [z0]
           exact ih (W ((W (v1 + 1)) + 1)) (v2 + 1) (by (try simp only [List.length_append, List.length_cons, List.length_nil, Int.toNat_zero]); omega) (by (try simp only [List.length_append, List.length_cons, List.length_nil, Int.toNat_zero]); omega)
          | false =>
           have q6 := ne_of_beq_false h6
           have e := Eq.refl (S79_0 a0 a1 a2 (v1, v2)); conv at e => rhs; simp only [S79_0, h0, h1, h2, h3, h4, h5, h6, cond_true, cond_false]
           rw [loopF_inl e]
           refine ba (t6 ++ [.d h6, .u 0, .F]) [] [1, 2, 3, 7, 8] [2] hcx (m := n) B79_0 (K79_0) (st79_0 a0 a1 a2 (W (v1 + 1)) (W (v2 + 1))) (by kernel_rfl) ?_
           have z0 : (W (v2 + 1)) = (v2 + 1) := W_eq (by omega) (by omega)
           rw [z0]
           exact ih (W (v1 + 1)) (v2 + 1) (by (try simp only [List.length_append, List.length_cons, List.length_nil, Int.toNat_zero]); omega) (by (try simp only [List.length_append, List.length_cons, List.length_nil, Int.toNat_zero]); omega)
         | false =>
          have q5 := ne_of_beq_false h5
          have e := Eq.refl (S79_0 a0 a1 a2 (v1, v2)); conv at e => rhs; simp only [S79_0, h0, h1, h2, h3, h4, h5, cond_true, cond_false]
          rw [loopF_inl e]
          refine ba (t5 ++ [.d h5, .u 0, .F]) [] [1, 2, 3, 7, 8] [2] hcx (m := n) B79_0 (K79_0) (st79_0 a0 a1 a2 (W (v1 + 1)) (W (v2 + 1))) (by kernel_rfl) ?_
          have z0 : (W (v2 + 1)) = (v2 + 1) := W_eq (by omega) (by omega)
          rw [z0]
          exact ih (W (v1 + 1)) (v2 + 1) (by (try simp only [List.length_append, List.length_cons, List.length_nil, Int.toNat_zero]); omega) (by (try simp only [List.length_append, List.length_cons, List.length_nil, Int.toNat_zero]); omega)
       | false =>
        have q3 := ne_of_beq_false h3
        let t4 : List (St Tryz.prog) := (t3 ++ [.d h3, .u 0, .T, .i v2 (a0.2.length), .i 2 3 (by decide), .L c85_len a0.2 v2 2 1])
        cases h4 : (((a0.2.getD (Int.toNat v2) default).2.2 : Int) == a1) with
        | true =>
         have q4 := eq_of_beq h4
         let t5 : List (St Tryz.prog) := (t4 ++ [.d h4, .p (show (3 : Int) ≠ 0 from by decide), .i v2 (a0.2.length), .i 0 3 (by decide), .L c85_len a0.2 v2 0 1])
         cases h5 : (((a0.2.getD (Int.toNat v2) default).1 : Int) == a2) with
         | true =>
          have q5 := eq_of_beq h5
          have e := Eq.refl (S79_0 a0 a1 a2 (v1, v2)); conv at e => rhs; simp only [S79_0, h0, h1, h2, h3, h4, h5, cond_true, cond_false]
          rw [loopF_inl e]
          refine ba (t5 ++ [.d h5, .u 0, .F]) [] [1, 2, 3, 7, 8] [2] hcx (m := n) B79_0 (K79_0) (st79_0 a0 a1 a2 (W ((W (v1 + 1)) + 1)) (W (v2 + 1))) (by kernel_rfl) ?_
          have z0 : (W (v2 + 1)) = (v2 + 1) := W_eq (by omega) (by omega)
          rw [z0]
          exact ih (W ((W (v1 + 1)) + 1)) (v2 + 1) (by (try simp only [List.length_append, List.length_cons, List.length_nil, Int.toNat_zero]); omega) (by (try simp only [List.length_append, List.length_cons, List.length_nil, Int.toNat_zero]); omega)
         | false =>
          have q5 := ne_of_beq_false h5
          have e := Eq.refl (S79_0 a0 a1 a2 (v1, v2)); conv at e => rhs; simp only [S79_0, h0, h1, h2, h3, h4, h5, cond_true, cond_false]
          rw [loopF_inl e]
          refine ba (t5 ++ [.d h5, .u 0, .F]) [] [1, 2, 3, 7, 8] [2] hcx (m := n) B79_0 (K79_0) (st79_0 a0 a1 a2 (W (v1 + 1)) (W (v2 + 1))) (by kernel_rfl) ?_
          have z0 : (W (v2 + 1)) = (v2 + 1) := W_eq (by omega) (by omega)
          rw [z0]
          exact ih (W (v1 + 1)) (v2 + 1) (by (try simp only [List.length_append, List.length_cons, List.length_nil, Int.toNat_zero]); omega) (by (try simp only [List.length_append, List.length_cons, List.length_nil, Int.toNat_zero]); omega)
        | false =>
         have q4 := ne_of_beq_false h4
         have e := Eq.refl (S79_0 a0 a1 a2 (v1, v2)); conv at e => rhs; simp only [S79_0, h0, h1, h2, h3, h4, cond_true, cond_false]
         rw [loopF_inl e]
         refine ba (t4 ++ [.d h4, .u 0, .F]) [] [1, 2, 3, 7, 8] [2] hcx (m := n) B79_0 (K79_0) (st79_0 a0 a1 a2 (W (v1 + 1)) (W (v2 + 1))) (by kernel_rfl) ?_
         have z0 : (W (v2 + 1)) = (v2 + 1) := W_eq (by omega) (by omega)
         rw [z0]
         exact ih (W (v1 + 1)) (v2 + 1) (by (try simp only [List.length_append, List.length_cons, List.length_nil, Int.toNat_zero]); omega) (by (try simp only [List.length_append, List.length_cons, List.length_nil, Int.toNat_zero]); omega)
      | false =>
       have q2 := ne_of_beq_false h2
       let t3 : List (St Tryz.prog) := (t2 ++ [.d h2, .u 0, .T, .i v2 (a0.2.length), .i 1 3 (by decide), .L c85_len a0.2 v2 1 1])
       cases h3 : (((a0.2.getD (Int.toNat v2) default).2.1 : Int) == a1) with
       | true =>
        have q3 := eq_of_beq h3
        let t4 : List (St Tryz.prog) := (t3 ++ [.d h3, .p (show (3 : Int) ≠ 0 from by decide), .i v2 (a0.2.length), .i 2 3 (by decide), .L c85_len a0.2 v2 2 1])
        cases h4 : (((a0.2.getD (Int.toNat v2) default).2.2 : Int) == a2) with
        | true =>
         have q4 := eq_of_beq h4
         let t5 : List (St Tryz.prog) := (t4 ++ [.d h4, .u 0, .T, .i v2 (a0.2.length), .i 2 3 (by decide), .L c85_len a0.2 v2 2 1])
         cases h5 : (((a0.2.getD (Int.toNat v2) default).2.2 : Int) == a1) with
         | true =>
          have q5 := eq_of_beq h5
          let t6 : List (St Tryz.prog) := (t5 ++ [.d h5, .p (show (3 : Int) ≠ 0 from by decide), .i v2 (a0.2.length), .i 0 3 (by decide), .L c85_len a0.2 v2 0 1])
          cases h6 : (((a0.2.getD (Int.toNat v2) default).1 : Int) == a2) with
          | true =>
           have q6 := eq_of_beq h6
           have e := Eq.refl (S79_0 a0 a1 a2 (v1, v2)); conv at e => rhs; simp only [S79_0, h0, h1, h2, h3, h4, h5, h6, cond_true, cond_false]
           rw [loopF_inl e]
           refine ba (t6 ++ [.d h6, .u 0, .F]) [] [1, 2, 3, 7, 8] [2] hcx (m := n) B79_0 (K79_0) (st79_0 a0 a1 a2 (W ((W (v1 + 1)) + 1)) (W (v2 + 1))) (by kernel_rfl) ?_
           have z0 : (W (v2 + 1)) = (v2 + 1) := W_eq (by omega) (by omega)
           rw [z0]
           exact ih (W ((W (v1 + 1)) + 1)) (v2 + 1) (by (try simp only [List.length_append, List.length_cons, List.length_nil, Int.toNat_zero]); omega) (by (try simp only [List.length_append, List.length_cons, List.length_nil, Int.toNat_zero]); omega)
          | false =>
           have q6 := ne_of_beq_false h6
           have e := Eq.refl (S79_0 a0 a1 a2 (v1, v2)); conv at e => rhs; simp only [S79_0, h0, h1, h2, h3, h4, h5, h6, cond_true, cond_false]
           rw [loopF_inl e]
           refine ba (t6 ++ [.d h6, .u 0, .F]) [] [1, 2, 3, 7, 8] [2] hcx (m := n) B79_0 (K79_0) (st79_0 a0 a1 a2 (W (v1 + 1)) (W (v2 + 1))) (by kernel_rfl) ?_
           have z0 : (W (v2 + 1)) = (v2 + 1) := W_eq (by omega) (by omega)
           rw [z0]
           exact ih (W (v1 + 1)) (v2 + 1) (by (try simp only [List.length_append, List.length_cons, List.length_nil, Int.toNat_zero]); omega) (by (try simp only [List.length_append, List.length_cons, List.length_nil, Int.toNat_zero]); omega)
         | false =>
          have q5 := ne_of_beq_false h5
          have e := Eq.refl (S79_0 a0 a1 a2 (v1, v2)); conv at e => rhs; simp only [S79_0, h0, h1, h2, h3, h4, h5, cond_true, cond_false]
          rw [loopF_inl e]
          refine ba (t5 ++ [.d h5, .u 0, .F]) [] [1, 2, 3, 7, 8] [2] hcx (m := n) B79_0 (K79_0) (st79_0 a0 a1 a2 (W (v1 + 1)) (W (v2 + 1))) (by kernel_rfl) ?_
          have z0 : (W (v2 + 1)) = (v2 + 1) := W_eq (by omega) (by omega)
          rw [z0]
          exact ih (W (v1 + 1)) (v2 + 1) (by (try simp only [List.length_append, List.length_cons, List.length_nil, Int.toNat_zero]); omega) (by (try simp only [List.length_append, List.length_cons, List.length_nil, Int.toNat_zero]); omega)
        | false =>
         have q4 := ne_of_beq_false h4
         let t5 : List (St Tryz.prog) := (t4 ++ [.d h4, .u 0, .T, .i v2 (a0.2.length), .i 2 3 (by decide), .L c85_len a0.2 v2 2 1])
         cases h5 : (((a0.2.getD (Int.toNat v2) default).2.2 : Int) == a1) with
         | true =>
          have q5 := eq_of_beq h5
          let t6 : List (St Tryz.prog) := (t5 ++ [.d h5, .p (show (3 : Int) ≠ 0 from by decide), .i v2 (a0.2.length), .i 0 3 (by decide), .L c85_len a0.2 v2 0 1])
          cases h6 : (((a0.2.getD (Int.toNat v2) default).1 : Int) == a2) with
          | true =>
           have q6 := eq_of_beq h6
           have e := Eq.refl (S79_0 a0 a1 a2 (v1, v2)); conv at e => rhs; simp only [S79_0, h0, h1, h2, h3, h4, h5, h6, cond_true, cond_false]
           rw [loopF_inl e]
           refine ba (t6 ++ [.d h6, .u 0, .F]) [] [1, 2, 3, 7, 8] [2] hcx (m := n) B79_0 (K79_0) (st79_0 a0 a1 a2 (W (v1 + 1)) (W (v2 + 1))) (by kernel_rfl) ?_
           have z0 : (W (v2 + 1)) = (v2 + 1) := W_eq (by omega) (by omega)
           rw [z0]
           exact ih (W (v1 + 1)) (v2 + 1) (by (try simp only [List.length_append, List.length_cons, List.length_nil, Int.toNat_zero]); omega) (by (try simp only [List.length_append, List.length_cons, List.length_nil, Int.toNat_zero]); omega)
          | false =>
           have q6 := ne_of_beq_false h6
           have e := Eq.refl (S79_0 a0 a1 a2 (v1, v2)); conv at e => rhs; simp only [S79_0, h0, h1, h2, h3, h4, h5, h6, cond_true, cond_false]
           rw [loopF_inl e]
           refine ba (t6 ++ [.d h6, .u 0, .F]) [] [1, 2, 3, 7, 8] [2] hcx (m := n) B79_0 (K79_0) (st79_0 a0 a1 a2 v1 (W (v2 + 1))) (by kernel_rfl) ?_
           have z0 : (W (v2 + 1)) = (v2 + 1) := W_eq (by omega) (by omega)
           rw [z0]
           exact ih v1 (v2 + 1) (by (try simp only [List.length_append, List.length_cons, List.length_nil, Int.toNat_zero]); omega) (by (try simp only [List.length_append, List.length_cons, List.length_nil, Int.toNat_zero]); omega)
         | false =>
          have q5 := ne_of_beq_false h5
          have e := Eq.refl (S79_0 a0 a1 a2 (v1, v2)); conv at e => rhs; simp only [S79_0, h0, h1, h2, h3, h4, h5, cond_true, cond_false]
          rw [loopF_inl e]
          refine ba (t5 ++ [.d h5, .u 0, .F]) [] [1, 2, 3, 7, 8] [2] hcx (m := n) B79_0 (K79_0) (st79_0 a0 a1 a2 v1 (W (v2 + 1))) (by kernel_rfl) ?_
          have z0 : (W (v2 + 1)) = (v2 + 1) := W_eq (by omega) (by omega)
          rw [z0]
          exact ih v1 (v2 + 1) (by (try simp only [List.length_append, List.length_cons, List.length_nil, Int.toNat_zero]); omega) (by (try simp only [List.length_append, List.length_cons, List.length_nil, Int.toNat_zero]); omega)
       | false =>
        have q3 := ne_of_beq_false h3
        let t4 : List (St Tryz.prog) := (t3 ++ [.d h3, .u 0, .T, .i v2 (a0.2.length), .i 2 3 (by decide), .L c85_len a0.2 v2 2 1])
        cases h4 : (((a0.2.getD (Int.toNat v2) default).2.2 : Int) == a1) with
        | true =>
         have q4 := eq_of_beq h4
         let t5 : List (St Tryz.prog) := (t4 ++ [.d h4, .p (show (3 : Int) ≠ 0 from by decide), .i v2 (a0.2.length), .i 0 3 (by decide), .L c85_len a0.2 v2 0 1])
         cases h5 : (((a0.2.getD (Int.toNat v2) default).1 : Int) == a2) with
         | true =>
          have q5 := eq_of_beq h5
          have e := Eq.refl (S79_0 a0 a1 a2 (v1, v2)); conv at e => rhs; simp only [S79_0, h0, h1, h2, h3, h4, h5, cond_true, cond_false]
          rw [loopF_inl e]
          refine ba (t5 ++ [.d h5, .u 0, .F]) [] [1, 2, 3, 7, 8] [2] hcx (m := n) B79_0 (K79_0) (st79_0 a0 a1 a2 (W (v1 + 1)) (W (v2 + 1))) (by kernel_rfl) ?_
          have z0 : (W (v2 + 1)) = (v2 + 1) := W_eq (by omega) (by omega)
          rw [z0]
          exact ih (W (v1 + 1)) (v2 + 1) (by (try simp only [List.length_append, List.length_cons, List.length_nil, Int.toNat_zero]); omega) (by (try simp only [List.length_append, List.length_cons, List.length_nil, Int.toNat_zero]); omega)
         | false =>
          have q5 := ne_of_beq_false h5
          have e := Eq.refl (S79_0 a0 a1 a2 (v1, v2)); conv at e => rhs; simp only [S79_0, h0, h1, h2, h3, h4, h5, cond_true, cond_false]
          rw [loopF_inl e]
          refine ba (t5 ++ [.d h5, .u 0, .F]) [] [1, 2, 3, 7, 8] [2] hcx (m := n) B79_0 (K79_0) (st79_0 a0 a1 a2 v1 (W (v2 + 1))) (by kernel_rfl) ?_
          have z0 : (W (v2 + 1)) = (v2 + 1) := W_eq (by omega) (by omega)
          rw [z0]
          exact ih v1 (v2 + 1) (by (try simp only [List.length_append, List.length_cons, List.length_nil, Int.toNat_zero]); omega) (by (try simp only [List.length_append, List.length_cons, List.length_nil, Int.toNat_zero]); omega)
        | false =>
         have q4 := ne_of_beq_false h4
         have e := Eq.refl (S79_0 a0 a1 a2 (v1, v2)); conv at e => rhs; simp only [S79_0, h0, h1, h2, h3, h4, cond_true, cond_false]
         rw [loopF_inl e]
         refine ba (t4 ++ [.d h4, .u 0, .F]) [] [1, 2, 3, 7, 8] [2] hcx (m := n) B79_0 (K79_0) (st79_0 a0 a1 a2 v1 (W (v2 + 1))) (by kernel_rfl) ?_
         have z0 : (W (v2 + 1)) = (v2 + 1) := W_eq (by omega) (by omega)
         rw [z0]
         exact ih v1 (v2 + 1) (by (try simp only [List.length_append, List.length_cons, List.length_nil, Int.toNat_zero]); omega) (by (try simp only [List.length_append, List.length_cons, List.length_nil, Int.toNat_zero]); omega)
     | false =>
      have q1 := ne_of_beq_false h1
      let t2 : List (St Tryz.prog) := (t1 ++ [.d h1, .u 0, .T, .i v2 (a0.2.length), .i 1 3 (by decide), .L c85_len a0.2 v2 1 1])
      cases h2 : (((a0.2.getD (Int.toNat v2) default).2.1 : Int) == a1) with
      | true =>
       have q2 := eq_of_beq h2
       let t3 : List (St Tryz.prog) := (t2 ++ [.d h2, .p (show (3 : Int) ≠ 0 from by decide), .i v2 (a0.2.length), .i 2 3 (by decide), .L c85_len a0.2 v2 2 1])
       cases h3 : (((a0.2.getD (Int.toNat v2) default).2.2 : Int) == a2) with
       | true =>
        have q3 := eq_of_beq h3
        let t4 : List (St Tryz.prog) := (t3 ++ [.d h3, .u 0, .T, .i v2 (a0.2.length), .i 2 3 (by decide), .L c85_len a0.2 v2 2 1])
        cases h4 : (((a0.2.getD (Int.toNat v2) default).2.2 : Int) == a1) with
        | true =>
         have q4 := eq_of_beq h4
         let t5 : List (St Tryz.prog) := (t4 ++ [.d h4, .p (show (3 : Int) ≠ 0 from by decide), .i v2 (a0.2.length), .i 0 3 (by decide), .L c85_len a0.2 v2 0 1])
         cases h5 : (((a0.2.getD (Int.toNat v2) default).1 : Int) == a2) with
         | true =>
          have q5 := eq_of_beq h5
          have e := Eq.refl (S79_0 a0 a1 a2 (v1, v2)); conv at e => rhs; simp only [S79_0, h0, h1, h2, h3, h4, h5, cond_true, cond_false]
          rw [loopF_inl e]
          refine ba (t5 ++ [.d h5, .u 0, .F]) [] [1, 2, 3, 7, 8] [2] hcx (m := n) B79_0 (K79_0) (st79_0 a0 a1 a2 (W ((W (v1 + 1)) + 1)) (W (v2 + 1))) (by kernel_rfl) ?_
          have z0 : (W (v2 + 1)) = (v2 + 1) := W_eq (by omega) (by omega)
          rw [z0]
          exact ih (W ((W (v1 + 1)) + 1)) (v2 + 1) (by (try simp only [List.length_append, List.length_cons, List.length_nil, Int.toNat_zero]); omega) (by (try simp only [List.length_append, List.length_cons, List.length_nil, Int.toNat_zero]); omega)
         | false =>
          have q5 := ne_of_beq_false h5
          have e := Eq.refl (S79_0 a0 a1 a2 (v1, v2)); conv at e => rhs; simp only [S79_0, h0, h1, h2, h3, h4, h5, cond_true, cond_false]
          rw [loopF_inl e]
          refine ba (t5 ++ [.d h5, .u 0, .F]) [] [1, 2, 3, 7, 8] [2] hcx (m := n) B79_0 (K79_0) (st79_0 a0 a1 a2 (W (v1 + 1)) (W (v2 + 1))) (by kernel_rfl) ?_
          have z0 : (W (v2 + 1)) = (v2 + 1) := W_eq (by omega) (by omega)
          rw [z0]
          exact ih (W (v1 + 1)) (v2 + 1) (by (try simp only [List.length_append, List.length_cons, List.length_nil, Int.toNat_zero]); omega) (by (try simp only [List.length_append, List.length_cons, List.length_nil, Int.toNat_zero]); omega)
        | false =>
         have q4 := ne_of_beq_false h4
         have e := Eq.refl (S79_0 a0 a1 a2 (v1, v2)); conv at e => rhs; simp only [S79_0, h0, h1, h2, h3, h4, cond_true, cond_false]
         rw [loopF_inl e]
         refine ba (t4 ++ [.d h4, .u 0, .F]) [] [1, 2, 3, 7, 8] [2] hcx (m := n) B79_0 (K79_0) (st79_0 a0 a1 a2 (W (v1 + 1)) (W (v2 + 1))) (by kernel_rfl) ?_
         have z0 : (W (v2 + 1)) = (v2 + 1) := W_eq (by omega) (by omega)
         rw [z0]
         exact ih (W (v1 + 1)) (v2 + 1) (by (try simp only [List.length_append, List.length_cons, List.length_nil, Int.toNat_zero]); omega) (by (try simp only [List.length_append, List.length_cons, List.length_nil, Int.toNat_zero]); omega)
       | false =>
        have q3 := ne_of_beq_false h3
        let t4 : List (St Tryz.prog) := (t3 ++ [.d h3, .u 0, .T, .i v2 (a0.2.length), .i 2 3 (by decide), .L c85_len a0.2 v2 2 1])
        cases h4 : (((a0.2.getD (Int.toNat v2) default).2.2 : Int) == a1) with
        | true =>
         have q4 := eq_of_beq h4
         let t5 : List (St Tryz.prog) := (t4 ++ [.d h4, .p (show (3 : Int) ≠ 0 from by decide), .i v2 (a0.2.length), .i 0 3 (by decide), .L c85_len a0.2 v2 0 1])
         cases h5 : (((a0.2.getD (Int.toNat v2) default).1 : Int) == a2) with
         | true =>
          have q5 := eq_of_beq h5
          have e := Eq.refl (S79_0 a0 a1 a2 (v1, v2)); conv at e => rhs; simp only [S79_0, h0, h1, h2, h3, h4, h5, cond_true, cond_false]
          rw [loopF_inl e]
          refine ba (t5 ++ [.d h5, .u 0, .F]) [] [1, 2, 3, 7, 8] [2] hcx (m := n) B79_0 (K79_0) (st79_0 a0 a1 a2 (W (v1 + 1)) (W (v2 + 1))) (by kernel_rfl) ?_
          have z0 : (W (v2 + 1)) = (v2 + 1) := W_eq (by omega) (by omega)
          rw [z0]
          exact ih (W (v1 + 1)) (v2 + 1) (by (try simp only [List.length_append, List.length_cons, List.length_nil, Int.toNat_zero]); omega) (by (try simp only [List.length_append, List.length_cons, List.length_nil, Int.toNat_zero]); omega)
         | false =>
          have q5 := ne_of_beq_false h5
          have e := Eq.refl (S79_0 a0 a1 a2 (v1, v2)); conv at e => rhs; simp only [S79_0, h0, h1, h2, h3, h4, h5, cond_true, cond_false]
          rw [loopF_inl e]
          refine ba (t5 ++ [.d h5, .u 0, .F]) [] [1, 2, 3, 7, 8] [2] hcx (m := n) B79_0 (K79_0) (st79_0 a0 a1 a2 v1 (W (v2 + 1))) (by kernel_rfl) ?_
          have z0 : (W (v2 + 1)) = (v2 + 1) := W_eq (by omega) (by omega)
          rw [z0]
          exact ih v1 (v2 + 1) (by (try simp only [List.length_append, List.length_cons, List.length_nil, Int.toNat_zero]); omega) (by (try simp only [List.length_append, List.length_cons, List.length_nil, Int.toNat_zero]); omega)
        | false =>
         have q4 := ne_of_beq_false h4
         have e := Eq.refl (S79_0 a0 a1 a2 (v1, v2)); conv at e => rhs; simp only [S79_0, h0, h1, h2, h3, h4, cond_true, cond_false]
         rw [loopF_inl e]
         refine ba (t4 ++ [.d h4, .u 0, .F]) [] [1, 2, 3, 7, 8] [2] hcx (m := n) B79_0 (K79_0) (st79_0 a0 a1 a2 v1 (W (v2 + 1))) (by kernel_rfl) ?_
         have z0 : (W (v2 + 1)) = (v2 + 1) := W_eq (by omega) (by omega)
         rw [z0]
         exact ih v1 (v2 + 1) (by (try simp only [List.length_append, List.length_cons, List.length_nil, Int.toNat_zero]); omega) (by (try simp only [List.length_append, List.length_cons, List.length_nil, Int.toNat_zero]); omega)
      | false =>
       have q2 := ne_of_beq_false h2
       let t3 : List (St Tryz.prog) := (t2 ++ [.d h2, .u 0, .T, .i v2 (a0.2.length), .i 2 3 (by decide), .L c85_len a0.2 v2 2 1])
       cases h3 : (((a0.2.getD (Int.toNat v2) default).2.2 : Int) == a1) with
       | true =>
        have q3 := eq_of_beq h3
        let t4 : List (St Tryz.prog) := (t3 ++ [.d h3, .p (show (3 : Int) ≠ 0 from by decide), .i v2 (a0.2.length), .i 0 3 (by decide), .L c85_len a0.2 v2 0 1])
        cases h4 : (((a0.2.getD (Int.toNat v2) default).1 : Int) == a2) with
        | true =>
         have q4 := eq_of_beq h4
         have e := Eq.refl (S79_0 a0 a1 a2 (v1, v2)); conv at e => rhs; simp only [S79_0, h0, h1, h2, h3, h4, cond_true, cond_false]
         rw [loopF_inl e]
         refine ba (t4 ++ [.d h4, .u 0, .F]) [] [1, 2, 3, 7, 8] [2] hcx (m := n) B79_0 (K79_0) (st79_0 a0 a1 a2 (W (v1 + 1)) (W (v2 + 1))) (by kernel_rfl) ?_
         have z0 : (W (v2 + 1)) = (v2 + 1) := W_eq (by omega) (by omega)
         rw [z0]
         exact ih (W (v1 + 1)) (v2 + 1) (by (try simp only [List.length_append, List.length_cons, List.length_nil, Int.toNat_zero]); omega) (by (try simp only [List.length_append, List.length_cons, List.length_nil, Int.toNat_zero]); omega)
        | false =>
         have q4 := ne_of_beq_false h4
         have e := Eq.refl (S79_0 a0 a1 a2 (v1, v2)); conv at e => rhs; simp only [S79_0, h0, h1, h2, h3, h4, cond_true, cond_false]
         rw [loopF_inl e]
         refine ba (t4 ++ [.d h4, .u 0, .F]) [] [1, 2, 3, 7, 8] [2] hcx (m := n) B79_0 (K79_0) (st79_0 a0 a1 a2 v1 (W (v2 + 1))) (by kernel_rfl) ?_
         have z0 : (W (v2 + 1)) = (v2 + 1) := W_eq (by omega) (by omega)
         rw [z0]
         exact ih v1 (v2 + 1) (by (try simp only [List.length_append, List.length_cons, List.length_nil, Int.toNat_zero]); omega) (by (try simp only [List.length_append, List.length_cons, List.length_nil, Int.toNat_zero]); omega)
       | false =>
        have q3 := ne_of_beq_false h3
        have e := Eq.refl (S79_0 a0 a1 a2 (v1, v2)); conv at e => rhs; simp only [S79_0, h0, h1, h2, h3, cond_true, cond_false]
        rw [loopF_inl e]
        refine ba (t3 ++ [.d h3, .u 0, .F]) [] [1, 2, 3, 7, 8] [2] hcx (m := n) B79_0 (K79_0) (st79_0 a0 a1 a2 v1 (W (v2 + 1))) (by kernel_rfl) ?_
        have z0 : (W (v2 + 1)) = (v2 + 1) := W_eq (by omega) (by omega)
        rw [z0]
        exact ih v1 (v2 + 1) (by (try simp only [List.length_append, List.length_cons, List.length_nil, Int.toNat_zero]); omega) (by (try simp only [List.length_append, List.length_cons, List.length_nil, Int.toNat_zero]); omega)
    | false =>
     have q0 := of_decide_eq_false h0
     have e := Eq.refl (S79_0 a0 a1 a2 (v1, v2)); conv at e => rhs; simp only [S79_0, h0, cond_true, cond_false]
     rw [loopF_s, e]
     exact rt [.d h0] [] [] hcx (by kernel_rfl)

def F79 (a0 : (List (Int × Int × Int)) × List (Int × Int × Int)) (a1 : Int) (a2 : Int) : Int :=
  (loopF (S79_0 a0 a1 a2) (Int.toNat (((a0.2.length : Nat) : Int) - 0) + 1) (0, 0))

theorem C79 (a0 : (List (Int × Int × Int)) × List (Int × Int × Int)) (a1 : Int) (a2 : Int) (l0_1 : a0.1.length ≤ 9223372036854775807) (l0_2 : a0.2.length ≤ 9223372036854775807) : Con Tryz.prog 79 [(.a [(.s 0 0 a0.1.length 3), (.s 1 0 a0.2.length 3)]), (iv a1), (iv a2)] [(.live false true (flat c27 a0.1)), (.live false true (flat c85 a0.2))] (iv (F79 a0 a1 a2)) [] := by
  refine con_s Tryz.func79 (by kernel_rfl) fun cx hcx => ?_
  have e := Eq.refl (F79 a0 a1 a2); conv at e => rhs; simp only [F79]
  rw [e]
  refine en [] [] [1, 2, 3, 7, 8] [2] hcx B79_0 (K79_0) (st79_0 a0 a1 a2 0 0) (Int.toNat (((a0.2.length : Nat) : Int) - 0) + 1) (by kernel_rfl) ?_
  exact L79_0 a0 a1 a2 l0_1 l0_2 hcx (Int.toNat (((a0.2.length : Nat) : Int) - 0) + 1) 0 0 (by (try simp only [List.length_append, List.length_cons, List.length_nil, Int.toNat_zero]); omega) (by (try simp only [List.length_append, List.length_cons, List.length_nil, Int.toNat_zero]); omega)

noncomputable def B80_0 : Code := (loopAtD [1, 1, 0, 1] [] (bodyOf Tryz.f80) []).1
noncomputable def K80_0 : List K := (loopAtD [1, 1, 0, 1] [] (bodyOf Tryz.f80) []).2

def st80_0 (a0 : (List (Int × Int × Int)) × List (Int × Int × Int)) (v1 : Int) (v2 : Int) : LS := ⟨slN 27 [(1, (.p 2 0)), (3, (iv v1)), (4, (iv v2))], [(.live false true (flat c27 a0.1)), (.live false true (flat c85 a0.2)), (.live true false [(.s 0 0 a0.1.length 3), (.s 1 0 a0.2.length 3)])]⟩

def S80_0 (a0 : (List (Int × Int × Int)) × List (Int × Int × Int)) : Int × Int → (Int × Int) ⊕ (Int)
  | (v1, v2) =>
   (bif (decide ((v2 : Int) < ((a0.2.length : Nat) : Int))) then
    (.inl ((W (v1 + (F116 (F78 (a0.1, a0.2) v2).1 (F114 (F78 (a0.1, a0.2) v2).2.1 (F78 (a0.1, a0.2) v2).2.2)))), (v2 + 1)))
   else
    (.inr v1))

set_option maxHeartbeats 4000000 in
theorem L80_0 (a0 : (List (Int × Int × Int)) × List (Int × Int × Int)) (l0_1 : a0.1.length ≤ 9223372036854775807) (l0_2 : a0.2.length ≤ 9223372036854775807) (hv : okTo a0 a0.2.length) (hn : a0.2.length ≤ 96) {cx : Cx} (hcx : cx.base = 2) : ∀ (n : Nat) (v1 : Int) (v2 : Int), 0 ≤ v2 → Int.toNat (((a0.2.length : Nat) : Int) - v2) < n → Aw.Good Tryz.prog none 9 (bodyPost Tryz.prog Tryz.f80 (RR cx (iv (loopF (S80_0 a0) n (v1, v2))) [] [])) cx [] (.l B80_0 n :: K80_0) (st80_0 a0 v1 v2) := by
  intro n
  induction n with
  | zero => intro v1 v2 hi hn; exact absurd hn (Nat.not_lt_zero _)
  | succ n ih =>
    intro v1 v2 hi hn
    refine good_round ?_
    cases h0 : (decide ((v2 : Int) < ((a0.2.length : Nat) : Int))) with
    | true =>
     have q0 := of_decide_eq_true h0
     have e := Eq.refl (S80_0 a0 (v1, v2)); conv at e => rhs; simp only [S80_0, h0, cond_true, cond_false]
     rw [loopF_inl e]
     refine ba [.d h0, .c [0, 1] (C78 (a0.1, a0.2) v2 (by (try simp only [List.length_append, List.length_cons, List.length_nil, Int.toNat_zero]); omega) (by (try simp only [List.length_append, List.length_cons, List.length_nil, Int.toNat_zero]); omega) (by show 0 ≤ _ ∧ _ < ((a0.2.length : Nat) : Int); omega) (okTo_get hv (by omega) (by omega))), .c [] (C114 (F78 (a0.1, a0.2) v2).2.1 (F78 (a0.1, a0.2) v2).2.2), .c [] (C116 (F78 (a0.1, a0.2) v2).1 (F114 (F78 (a0.1, a0.2) v2).2.1 (F78 (a0.1, a0.2) v2).2.2))] [] [1, 3, 4] [2] hcx (m := n) B80_0 (K80_0) (st80_0 a0 (W (v1 + (F116 (F78 (a0.1, a0.2) v2).1 (F114 (F78 (a0.1, a0.2) v2).2.1 (F78 (a0.1, a0.2) v2).2.2)))) (W (v2 + 1))) (by kernel_rfl) ?_
     have z0 : (W (v2 + 1)) = (v2 + 1) := W_eq (by omega) (by omega)
     rw [z0]
     exact ih (W (v1 + (F116 (F78 (a0.1, a0.2) v2).1 (F114 (F78 (a0.1, a0.2) v2).2.1 (F78 (a0.1, a0.2) v2).2.2)))) (v2 + 1) (by (try simp only [List.length_append, List.length_cons, List.length_nil, Int.toNat_zero]); omega) (by (try simp only [List.length_append, List.length_cons, List.length_nil, Int.toNat_zero]); omega)
    | false =>
     have q0 := of_decide_eq_false h0
     have e := Eq.refl (S80_0 a0 (v1, v2)); conv at e => rhs; simp only [S80_0, h0, cond_true, cond_false]
     rw [loopF_s, e]
     exact rt [.d h0] [] [] hcx (by kernel_rfl)

def F80 (a0 : (List (Int × Int × Int)) × List (Int × Int × Int)) : Int :=
  (loopF (S80_0 a0) (Int.toNat (((a0.2.length : Nat) : Int) - 0) + 1) (0, 0))

theorem C80 (a0 : (List (Int × Int × Int)) × List (Int × Int × Int)) (l0_1 : a0.1.length ≤ 9223372036854775807) (l0_2 : a0.2.length ≤ 9223372036854775807) (hv : okTo a0 a0.2.length) (hn : a0.2.length ≤ 96) : Con Tryz.prog 80 [(.a [(.s 0 0 a0.1.length 3), (.s 1 0 a0.2.length 3)])] [(.live false true (flat c27 a0.1)), (.live false true (flat c85 a0.2))] (iv (F80 a0)) [] := by
  refine con_s Tryz.func80 (by kernel_rfl) fun cx hcx => ?_
  have e := Eq.refl (F80 a0); conv at e => rhs; simp only [F80]
  rw [e]
  refine en [] [] [1, 3, 4] [2] hcx B80_0 (K80_0) (st80_0 a0 0 0) (Int.toNat (((a0.2.length : Nat) : Int) - 0) + 1) (by kernel_rfl) ?_
  exact L80_0 a0 l0_1 l0_2 hv hn hcx (Int.toNat (((a0.2.length : Nat) : Int) - 0) + 1) 0 0 (by (try simp only [List.length_append, List.length_cons, List.length_nil, Int.toNat_zero]); omega) (by (try simp only [List.length_append, List.length_cons, List.length_nil, Int.toNat_zero]); omega)

noncomputable def B35_1 : Code := (loopAtD [1, 1, 0, 1, 0, 1, 0, 1, 1] [0] (bodyOf Tryz.f35) []).1
noncomputable def K35_1 (m0 : Nat) : List K := (loopAtD [1, 1, 0, 1, 0, 1, 0, 1, 1] [m0] (bodyOf Tryz.f35) []).2

def st35_1 (a0 : (List (Int × Int × Int)) × List (Int × Int × Int)) (v3 : Int) (v4 : Int) : LS := ⟨slN 148 [(1, (.p 2 0)), (3, (iv v3)), (4, (iv v4))], [(.live false true (flat c27 a0.1)), (.live false true (flat c85 a0.2)), (.live true false [(.s 0 0 a0.1.length 3), (.s 1 0 a0.2.length 3)])]⟩

def S35_1 (a0 : (List (Int × Int × Int)) × List (Int × Int × Int)) : Int × Int → (Int × Int) ⊕ ((Int) ⊕ (Int))
  | (v3, v4) =>
   (bif (decide ((v4 : Int) < v3)) then
    (bif ((((a0.1.getD (Int.toNat v3) default).1 : Int) == (a0.1.getD (Int.toNat v4) default).1) && ((((a0.1.getD (Int.toNat v3) default).2.1 : Int) == (a0.1.getD (Int.toNat v4) default).2.1) && ((((a0.1.getD (Int.toNat v3) default).2.2 : Int) == (a0.1.getD (Int.toNat v4) default).2.2) && true))) then
     (.inr (.inr 1))
    else
     (.inl (v3, (v4 + 1))))
   else
    (.inr (.inl (v3 + 1))))

noncomputable def B35_6 : Code := (loopAtD [1, 1, 1, 1, 1, 1, 0, 1] [] (bodyOf Tryz.f35) []).1
noncomputable def K35_6 : List K := (loopAtD [1, 1, 1, 1, 1, 1, 0, 1] [] (bodyOf Tryz.f35) []).2

def st35_6 (a0 : (List (Int × Int × Int)) × List (Int × Int × Int)) (v11c : List SV) (v11n : Nat) (v12 : Int) : LS := ⟨slN 148 [(1, (.p 2 0)), (5, (.s 3 0 v11n 1)), (13, (iv v12))], [(.live false true (flat c27 a0.1)), (.live false true (flat c85 a0.2)), (.live true false [(.s 0 0 a0.1.length 3), (.s 1 0 a0.2.length 3)]), (.live true true v11c)]⟩

def S35_6 (a0 : (List (Int × Int × Int)) × List (Int × Int × Int)) : List (Bool) × Int → (List (Bool) × Int) ⊕ (Int)
  | (v11, v12) =>
   (bif (decide ((v12 : Int) < ((v11.length : Nat) : Int))) then
    (bif (!(v11.getD (Int.toNat v12) default)) then
     (.inr 5)
    else
     (.inl (v11, (v12 + 1))))
   else
    (bif (decide (((F80 (a0.1, a0.2)) : Int) ≤ 0)) then
     (.inr 8)
    else
     (.inr 0)))

noncomputable def B35_4 : Code := (loopAtD [1, 1, 1, 1, 1, 0, 1] [] (bodyOf Tryz.f35) []).1
noncomputable def K35_4 : List K := (loopAtD [1, 1, 1, 1, 1, 0, 1] [] (bodyOf Tryz.f35) []).2

def st35_4 (a0 : (List (Int × Int × Int)) × List (Int × Int × Int)) (v8c : List SV) (v8n : Nat) (v9 : Int) : LS := ⟨slN 148 [(1, (.p 2 0)), (5, (.s 3 0 v8n 1)), (9, (iv v9))], [(.live false true (flat c27 a0.1)), (.live false true (flat c85 a0.2)), (.live true false [(.s 0 0 a0.1.length 3), (.s 1 0 a0.2.length 3)]), (.live true true v8c)]⟩

def S35_4 (a0 : (List (Int × Int × Int)) × List (Int × Int × Int)) : List (Bool) × Int → (List (Bool) × Int) ⊕ (Int)
  | (v8, v9) =>
   (bif (decide ((v9 : Int) < ((a0.2.length : Nat) : Int))) then
    (bif (((F79 (a0.1, a0.2) (a0.2.getD (Int.toNat v9) default).1 (a0.2.getD (Int.toNat v9) default).2.1) : Int) != 1) then
     (.inr 7)
    else
     (bif (((F79 (a0.1, a0.2) (a0.2.getD (Int.toNat v9) default).2.1 (a0.2.getD (Int.toNat v9) default).1) : Int) != 1) then
      (.inr 7)
     else
      (bif (((F79 (a0.1, a0.2) (a0.2.getD (Int.toNat v9) default).2.1 (a0.2.getD (Int.toNat v9) default).2.2) : Int) != 1) then
       (.inr 7)
      else
       (bif (((F79 (a0.1, a0.2) (a0.2.getD (Int.toNat v9) default).2.2 (a0.2.getD (Int.toNat v9) default).2.1) : Int) != 1) then
        (.inr 7)
       else
        (bif (((F79 (a0.1, a0.2) (a0.2.getD (Int.toNat v9) default).2.2 (a0.2.getD (Int.toNat v9) default).1) : Int) != 1) then
         (.inr 7)
        else
         (bif (((F79 (a0.1, a0.2) (a0.2.getD (Int.toNat v9) default).1 (a0.2.getD (Int.toNat v9) default).2.2) : Int) != 1) then
          (.inr 7)
         else
          (.inl (v8, (v9 + 1)))))))))
   else
    (.inr (loopF (S35_6 a0) (Int.toNat (((v8.length : Nat) : Int) - 0) + 1) (v8, 0))))

noncomputable def B35_2 : Code := (loopAtD [1, 1, 1, 1, 0, 1] [] (bodyOf Tryz.f35) []).1
noncomputable def K35_2 : List K := (loopAtD [1, 1, 1, 1, 0, 1] [] (bodyOf Tryz.f35) []).2

def st35_2 (a0 : (List (Int × Int × Int)) × List (Int × Int × Int)) (v5c : List SV) (v5n : Nat) (v6 : Int) : LS := ⟨slN 148 [(1, (.p 2 0)), (5, (.s 3 0 v5n 1)), (6, (iv v6))], [(.live false true (flat c27 a0.1)), (.live false true (flat c85 a0.2)), (.live true false [(.s 0 0 a0.1.length 3), (.s 1 0 a0.2.length 3)]), (.live true true v5c)]⟩

def S35_2 (a0 : (List (Int × Int × Int)) × List (Int × Int × Int)) : List (Bool) × Int → (List (Bool) × Int) ⊕ (Int)
  | (v5, v6) =>
   (bif (decide ((v6 : Int) < ((a0.2.length : Nat) : Int))) then
    (bif (decide (((a0.2.getD (Int.toNat v6) default).1 : Int) < 0)) then
     (.inr 5)
    else
     (bif (decide (((a0.2.getD (Int.toNat v6) default).1 : Int) ≥ ((a0.1.length : Nat) : Int))) then
      (.inr 5)
     else
      (bif (decide (((a0.2.getD (Int.toNat v6) default).2.1 : Int) < 0)) then
       (.inr 5)
      else
       (bif (decide (((a0.2.getD (Int.toNat v6) default).2.1 : Int) ≥ ((a0.1.length : Nat) : Int))) then
        (.inr 5)
       else
        (bif (decide (((a0.2.getD (Int.toNat v6) default).2.2 : Int) < 0)) then
         (.inr 5)
        else
         (bif (decide (((a0.2.getD (Int.toNat v6) default).2.2 : Int) ≥ ((a0.1.length : Nat) : Int))) then
          (.inr 5)
         else
          (bif ((((F77 (F78 (a0.1, a0.2) v6)).1 : Int) == 0) && ((((F77 (F78 (a0.1, a0.2) v6)).2.1 : Int) == 0) && ((((F77 (F78 (a0.1, a0.2) v6)).2.2 : Int) == 0) && true))) then
           (.inr 6)
          else
           (.inl ((((v5.set (Int.toNat (a0.2.getD (Int.toNat v6) default).1) true).set (Int.toNat (a0.2.getD (Int.toNat v6) default).2.1) true).set (Int.toNat (a0.2.getD (Int.toNat v6) default).2.2) true), (v6 + 1))))))))))
   else
    (.inr (loopF (S35_4 a0) (Int.toNat (((a0.2.length : Nat) : Int) - 0) + 1) (v5, 0))))

noncomputable def B35_0 : Code := (loopAtD [1, 1, 0, 1] [] (bodyOf Tryz.f35) []).1
noncomputable def K35_0 : List K := (loopAtD [1, 1, 0, 1] [] (bodyOf Tryz.f35) []).2

def st35_0 (a0 : (List (Int × Int × Int)) × List (Int × Int × Int)) (v1 : Int) : LS := ⟨slN 148 [(1, (.p 2 0)), (3, (iv v1))], [(.live false true (flat c27 a0.1)), (.live false true (flat c85 a0.2)), (.live true false [(.s 0 0 a0.1.length 3), (.s 1 0 a0.2.length 3)])]⟩

def S35_0 (a0 : (List (Int × Int × Int)) × List (Int × Int × Int)) : Int → (Int) ⊕ (Int)
  | v1 =>
   (bif (decide ((v1 : Int) < ((a0.1.length : Nat) : Int))) then
    (bif (!(F76 (a0.1.getD (Int.toNat v1) default) 64)) then
     (.inr 1)
    else
     (loopF (S35_1 a0) (Int.toNat (v1 - 0) + 1) (v1, 0)))
   else
    (.inr (loopF (S35_2 a0) (Int.toNat (((a0.2.length : Nat) : Int) - 0) + 1) ((List.replicate (Int.toNat ((a0.1.length : Nat) : Int)) false), 0))))

set_option maxHeartbeats 4000000 in
theorem L35_1 (a0 : (List (Int × Int × Int)) × List (Int × Int × Int)) (l0_1 : a0.1.length ≤ 9223372036854775807) (l0_2 : a0.2.length ≤ 9223372036854775807) {cx : Cx} (hcx : cx.base = 2)
    (n0 : Nat) (g0 : ∀ (v1 : Int), (0 ≤ v1) ∧ (a0.1.length ≤ 64) ∧ (a0.2.length ≤ 96) → Int.toNat (((a0.1.length : Nat) : Int) - v1) < n0 → Aw.Good Tryz.prog none 9 (bodyPost Tryz.prog Tryz.f35 (RR cx (iv (loopF (S35_0 a0) n0 v1)) [] [])) cx [] (.l B35_0 n0 :: K35_0) (st35_0 a0 v1)) : ∀ (n : Nat) (v3 : Int) (v4 : Int), (0 ≤ v4) ∧ ((0 ≤ v3)) ∧ ((a0.1.length ≤ 64)) ∧ ((a0.2.length ≤ 96)) ∧ (v3 < ((a0.1.length : Nat) : Int)) ∧ (Int.toNat (((a0.1.length : Nat) : Int) - v3) < n0 + 1) → Int.toNat (v3 - v4) < n → Aw.Good Tryz.prog none 9 (bodyPost Tryz.prog Tryz.f35 (RR cx (iv (thenF (S35_0 a0) n0 (loopF (S35_1 a0) n (v3, v4)))) [] [])) cx [] (.l B35_1 n :: K35_1 n0) (st35_1 a0 v3 v4) := by
  intro n
  induction n with
  | zero => intro v3 v4 hi hn; exact absurd hn (Nat.not_lt_zero _)
  | succ n ih =>
    intro v3 v4 hi hn
    refine good_round ?_
    cases h0 : (decide ((v4 : Int) < v3)) with
    | true =>
     have q0 := of_decide_eq_true h0
     let t1 : List (St Tryz.prog) := [.d h0, .i v3 (a0.1.length), .L c27_len a0.1 v3 0 3, .i v4 (a0.1.length), .L c27_len a0.1 v4 0 3]
     cases h1 : ((((a0.1.getD (Int.toNat v3) default).1 : Int) == (a0.1.getD (Int.toNat v4) default).1) && ((((a0.1.getD (Int.toNat v3) default).2.1 : Int) == (a0.1.getD (Int.toNat v4) default).2.1) && ((((a0.1.getD (Int.toNat v3) default).2.2 : Int) == (a0.1.getD (Int.toNat v4) default).2.2) && true))) with
     | true =>
      have e := Eq.refl (S35_1 a0 (v3, v4)); conv at e => rhs; simp only [S35_1, h0, h1, cond_true, cond_false]
      rw [loopF_s, e]
      exact rt (t1 ++ [.d h1]) [] [] hcx (by kernel_rfl)
     | false =>
      have e := Eq.refl (S35_1 a0 (v3, v4)); conv at e => rhs; simp only [S35_1, h0, h1, cond_true, cond_false]
      rw [loopF_inl e]
      refine ba (t1 ++ [.d h1]) [] [1, 3, 4] [2] hcx (m := n) B35_1 (K35_1 n0) (st35_1 a0 v3 (W (v4 + 1))) (by kernel_rfl) ?_
      have z0 : (W (v4 + 1)) = (v4 + 1) := W_eq (by omega) (by omega)
      rw [z0]
      exact ih v3 (v4 + 1) (by refine ⟨?_, ?_, ?_, ?_, ?_, ?_⟩ <;> (try simp only [List.length_append, List.length_cons, List.length_nil, Int.toNat_zero]) <;> first | omega | assumption | exact hi.2.1 | exact hi.2.2.1 | exact hi.2.2.2.1 | exact hi.2.2.2.2.1 | exact hi.2.2.2.2.2.1 | simp) (by (try simp only [List.length_append, List.length_cons, List.length_nil, Int.toNat_zero]); omega)
    | false =>
     have q0 := of_decide_eq_false h0
     have e := Eq.refl (S35_1 a0 (v3, v4)); conv at e => rhs; simp only [S35_1, h0, cond_true, cond_false]
     rw [loopF_s, e]
     refine ba [.d h0] [] [1, 3] [2] hcx (m := n0) B35_0 (K35_0) (st35_0 a0 (W (v3 + 1))) (by kernel_rfl) ?_
     have z0 : (W (v3 + 1)) = (v3 + 1) := W_eq (by omega) (by omega)
     rw [z0]
     exact g0 (v3 + 1) (by refine ⟨?_, ?_, ?_⟩ <;> (try simp only [List.length_append, List.length_cons, List.length_nil, Int.toNat_zero]) <;> first | omega | assumption | simp) (by (try simp only [List.length_append, List.length_cons, List.length_nil, Int.toNat_zero]); omega)

set_option maxHeartbeats 4000000 in
theorem L35_6 (a0 : (List (Int × Int × Int)) × List (Int × Int × Int)) (l0_1 : a0.1.length ≤ 9223372036854775807) (l0_2 : a0.2.length ≤ 9223372036854775807) {cx : Cx} (hcx : cx.base = 2) : ∀ (n : Nat) (v11 : List (Bool)) (v12 : Int), (0 ≤ v12) ∧ (okTo a0 a0.2.length) ∧ (a0.1.length ≤ 64) ∧ (a0.2.length ≤ 96) ∧ (v11.length = a0.1.length) → Int.toNat (((v11.length : Nat) : Int) - v12) < n → Aw.Good Tryz.prog none 9 (bodyPost Tryz.prog Tryz.f35 (RR cx (iv (loopF (S35_6 a0) n (v11, v12))) [] [])) cx [] (.l B35_6 n :: K35_6) (st35_6 a0 (flat c4 v11) v11.length v12) := by
  intro n
  induction n with
  | zero => intro v11 v12 hi hn; exact absurd hn (Nat.not_lt_zero _)
  | succ n ih =>
    intro v11 v12 hi hn
    refine good_round ?_
    cases h0 : (decide ((v12 : Int) < ((v11.length : Nat) : Int))) with
    | true =>
     have q0 := of_decide_eq_true h0
     let t1 : List (St Tryz.prog) := [.d h0, .i v12 (v11.length), .L c4_len v11 v12 0 1]
     cases h1 : (!(v11.getD (Int.toNat v12) default)) with
     | true =>
      have e := Eq.refl (S35_6 a0 (v11, v12)); conv at e => rhs; simp only [S35_6, h0, h1, cond_true, cond_false]
      rw [loopF_s, e]
      exact rt (t1 ++ [.d h1]) [] [] hcx (by kernel_rfl)
     | false =>
      have e := Eq.refl (S35_6 a0 (v11, v12)); conv at e => rhs; simp only [S35_6, h0, h1, cond_true, cond_false]
      rw [loopF_inl e]
      refine ba (t1 ++ [.d h1]) [] [1, 5, 13] [2, 3] hcx (m := n) B35_6 (K35_6) (st35_6 a0 (flat c4 v11) (v11.length) (W (v12 + 1))) (by kernel_rfl) ?_
      have z0 : (W (v12 + 1)) = (v12 + 1) := W_eq (by omega) (by omega)
      rw [z0]
      exact ih v11 (v12 + 1) (by refine ⟨?_, ?_, ?_, ?_, ?_⟩ <;> first | omega | assumption | exact okTo_0 | exact hi.2.1 | exact hi.2.2.1 | exact okTo_le hi.2.2.1 (by omega) | exact okTo_s hi.2.2.1 hfo | exact okTo_s hi.2.2.1 (by refine ⟨⟨?_, ?_⟩, ⟨?_, ?_⟩, ?_, ?_⟩ <;> omega) | (simp only [List.length_replicate, List.length_set]; omega)) (by (try simp only [List.length_append, List.length_cons, List.length_nil, Int.toNat_zero]); omega)
    | false =>
     have q0 := of_decide_eq_false h0
     let t1 : List (St Tryz.prog) := [.d h0, .c [0, 1] (C80 (a0.1, a0.2) (by (try simp only [List.length_append, List.length_cons, List.length_nil, Int.toNat_zero]); omega) (by (try simp only [List.length_append, List.length_cons, List.length_nil, Int.toNat_zero]); omega) hi.2.1 (by show a0.2.length ≤ 96; omega))]
     cases h1 : (decide (((F80 (a0.1, a0.2)) : Int) ≤ 0)) with
     | true =>
      have q1 := of_decide_eq_true h1
      have e := Eq.refl (S35_6 a0 (v11, v12)); conv at e => rhs; simp only [S35_6, h0, h1, cond_true, cond_false]
      rw [loopF_s, e]
      exact rt (t1 ++ [.d h1]) [] [] hcx (by kernel_rfl)
     | false =>
      have q1 := of_decide_eq_false h1
      have e := Eq.refl (S35_6 a0 (v11, v12)); conv at e => rhs; simp only [S35_6, h0, h1, cond_true, cond_false]
      rw [loopF_s, e]
      exact rt (t1 ++ [.d h1]) [] [] hcx (by kernel_rfl)

set_option maxHeartbeats 4000000 in
theorem L35_4 (a0 : (List (Int × Int × Int)) × List (Int × Int × Int)) (l0_1 : a0.1.length ≤ 9223372036854775807) (l0_2 : a0.2.length ≤ 9223372036854775807) {cx : Cx} (hcx : cx.base = 2) : ∀ (n : Nat) (v8 : List (Bool)) (v9 : Int), (0 ≤ v9) ∧ (okTo a0 a0.2.length) ∧ (a0.1.length ≤ 64) ∧ (a0.2.length ≤ 96) ∧ (v8.length = a0.1.length) → Int.toNat (((a0.2.length : Nat) : Int) - v9) < n → Aw.Good Tryz.prog none 9 (bodyPost Tryz.prog Tryz.f35 (RR cx (iv (loopF (S35_4 a0) n (v8, v9))) [] [])) cx [] (.l B35_4 n :: K35_4) (st35_4 a0 (flat c4 v8) v8.length v9) := by
  intro n
  induction n with
  | zero => intro v8 v9 hi hn; exact absurd hn (Nat.not_lt_zero _)
  | succ n ih =>
    intro v8 v9 hi hn
    refine good_round ?_
    cases h0 : (decide ((v9 : Int) < ((a0.2.length : Nat) : Int))) with
    | true =>
     have q0 := of_decide_eq_true h0
     let t1 : List (St Tryz.prog) := [.d h0, .u 200, .T, .i v9 (a0.2.length), .i 0 3 (by decide), .L c85_len a0.2 v9 0 1, .p (show (3 : Int) ≠ 0 from by decide), .i v9 (a0.2.length), .i 1 3 (by decide), .L c85_len a0.2 v9 1 1, .c [0, 1] (C79 (a0.1, a0.2) (a0.2.getD (Int.toNat v9) default).1 (a0.2.getD (Int.toNat v9) default).2.1 (by (try simp only [List.length_append, List.length_cons, List.length_nil, Int.toNat_zero]); omega) (by (try simp only [List.length_append, List.length_cons, List.length_nil, Int.toNat_zero]); omega))]
     cases h1 : (((F79 (a0.1, a0.2) (a0.2.getD (Int.toNat v9) default).1 (a0.2.getD (Int.toNat v9) default).2.1) : Int) != 1) with
     | true =>
      have q1 := bne_iff_ne.1 h1
      have e := Eq.refl (S35_4 a0 (v8, v9)); conv at e => rhs; simp only [S35_4, h0, h1, cond_true, cond_false]
      rw [loopF_s, e]
      exact rt (t1 ++ [.d h1]) [] [] hcx (by kernel_rfl)
     | false =>
      have q1 := bne_eq_false_iff_eq.1 h1
      let t2 : List (St Tryz.prog) := (t1 ++ [.d h1, .c [0, 1] (C79 (a0.1, a0.2) (a0.2.getD (Int.toNat v9) default).2.1 (a0.2.getD (Int.toNat v9) default).1 (by (try simp only [List.length_append, List.length_cons, List.length_nil, Int.toNat_zero]); omega) (by (try simp only [List.length_append, List.length_cons, List.length_nil, Int.toNat_zero]); omega))])
      cases h2 : (((F79 (a0.1, a0.2) (a0.2.getD (Int.toNat v9) default).2.1 (a0.2.getD (Int.toNat v9) default).1) : Int) != 1) with
      | true =>
       have q2 := bne_iff_ne.1 h2
       have e := Eq.refl (S35_4 a0 (v8, v9)); conv at e => rhs; simp only [S35_4, h0, h1, h2, cond_true, cond_false]
       rw [loopF_s, e]
       exact rt (t2 ++ [.d h2]) [] [] hcx (by kernel_rfl)
      | false =>
       have q2 := bne_eq_false_iff_eq.1 h2
       let t3 : List (St Tryz.prog) := (t2 ++ [.d h2, .u 0, .T, .i v9 (a0.2.length), .i 1 3 (by decide), .L c85_len a0.2 v9 1 1, .p (show (3 : Int) ≠ 0 from by decide), .i v9 (a0.2.length), .i 2 3 (by decide), .L c85_len a0.2 v9 2 1, .c [0, 1] (C79 (a0.1, a0.2) (a0.2.getD (Int.toNat v9) default).2.1 (a0.2.getD (Int.toNat v9) default).2.2 (by (try simp only [List.length_append, List.length_cons, List.length_nil, Int.toNat_zero]); omega) (by (try simp only [List.length_append, List.length_cons, List.length_nil, Int.toNat_zero]); omega))])
       cases h3 : (((F79 (a0.1, a0.2) (a0.2.getD (Int.toNat v9) default).2.1 (a0.2.getD (Int.toNat v9) default).2.2) : Int) != 1) with
       | true =>
        have q3 := bne_iff_ne.1 h3
        have e := Eq.refl (S35_4 a0 (v8, v9)); conv at e => rhs; simp only [S35_4, h0, h1, h2, h3, cond_true, cond_false]
        rw [loopF_s, e]
        exact rt (t3 ++ [.d h3]) [] [] hcx (by kernel_rfl)
       | false =>
        have q3 := bne_eq_false_iff_eq.1 h3
        let t4 : List (St Tryz.prog) := (t3 ++ [.d h3, .c [0, 1] (C79 (a0.1, a0.2) (a0.2.getD (Int.toNat v9) default).2.2 (a0.2.getD (Int.toNat v9) default).2.1 (by (try simp only [List.length_append, List.length_cons, List.length_nil, Int.toNat_zero]); omega) (by (try simp only [List.length_append, List.length_cons, List.length_nil, Int.toNat_zero]); omega))])
        cases h4 : (((F79 (a0.1, a0.2) (a0.2.getD (Int.toNat v9) default).2.2 (a0.2.getD (Int.toNat v9) default).2.1) : Int) != 1) with
        | true =>
         have q4 := bne_iff_ne.1 h4
         have e := Eq.refl (S35_4 a0 (v8, v9)); conv at e => rhs; simp only [S35_4, h0, h1, h2, h3, h4, cond_true, cond_false]
         rw [loopF_s, e]
         exact rt (t4 ++ [.d h4]) [] [] hcx (by kernel_rfl)
        | false =>
         have q4 := bne_eq_false_iff_eq.1 h4
         let t5 : List (St Tryz.prog) := (t4 ++ [.d h4, .u 0, .T, .i v9 (a0.2.length), .i 2 3 (by decide), .L c85_len a0.2 v9 2 1, .p (show (3 : Int) ≠ 0 from by decide), .i v9 (a0.2.length), .i 0 3 (by decide), .L c85_len a0.2 v9 0 1, .c [0, 1] (C79 (a0.1, a0.2) (a0.2.getD (Int.toNat v9) default).2.2 (a0.2.getD (Int.toNat v9) default).1 (by (try simp only [List.length_append, List.length_cons, List.length_nil, Int.toNat_zero]); omega) (by (try simp only [List.length_append, List.length_cons, List.length_nil, Int.toNat_zero]); omega))])
         cases h5 : (((F79 (a0.1, a0.2) (a0.2.getD (Int.toNat v9) default).2.2 (a0.2.getD (Int.toNat v9) default).1) : Int) != 1) with
         | true =>
          have q5 := bne_iff_ne.1 h5
          have e := Eq.refl (S35_4 a0 (v8, v9)); conv at e => rhs; simp only [S35_4, h0, h1, h2, h3, h4, h5, cond_true, cond_false]
          rw [loopF_s, e]
          exact rt (t5 ++ [.d h5]) [] [] hcx (by kernel_rfl)
         | false =>
          have q5 := bne_eq_false_iff_eq.1 h5
          let t6 : List (St Tryz.prog) := (t5 ++ [.d h5, .c [0, 1] (C79 (a0.1, a0.2) (a0.2.getD (Int.toNat v9) default).1 (a0.2.getD (Int.toNat v9) default).2.2 (by (try simp only [List.length_append, List.length_cons, List.length_nil, Int.toNat_zero]); omega) (by (try simp only [List.length_append, List.length_cons, List.length_nil, Int.toNat_zero]); omega))])
          cases h6 : (((F79 (a0.1, a0.2) (a0.2.getD (Int.toNat v9) default).1 (a0.2.getD (Int.toNat v9) default).2.2) : Int) != 1) with
          | true =>
           have q6 := bne_iff_ne.1 h6
           have e := Eq.refl (S35_4 a0 (v8, v9)); conv at e => rhs; simp only [S35_4, h0, h1, h2, h3, h4, h5, h6, cond_true, cond_false]
           rw [loopF_s, e]
           exact rt (t6 ++ [.d h6]) [] [] hcx (by kernel_rfl)
          | false =>
           have q6 := bne_eq_false_iff_eq.1 h6
           have e := Eq.refl (S35_4 a0 (v8, v9)); conv at e => rhs; simp only [S35_4, h0, h1, h2, h3, h4, h5, h6, cond_true, cond_false]
           rw [loopF_inl e]
           refine ba (t6 ++ [.d h6, .u 0, .F]) [] [1, 5, 9] [2, 3] hcx (m := n) B35_4 (K35_4) (st35_4 a0 (flat c4 v8) (v8.length) (W (v9 + 1))) (by kernel_rfl) ?_
           have z0 : (W (v9 + 1)) = (v9 + 1) := W_eq (by omega) (by omega)
           rw [z0]
           exact ih v8 (v9 + 1) (by refine ⟨?_, ?_, ?_, ?_, ?_⟩ <;> first | omega | assumption | exact okTo_0 | exact hi.2.1 | exact hi.2.2.1 | exact okTo_le hi.2.2.1 (by omega) | exact okTo_s hi.2.2.1 hfo | exact okTo_s hi.2.2.1 (by refine ⟨⟨?_, ?_⟩, ⟨?_, ?_⟩, ?_, ?_⟩ <;> omega) | (simp only [List.length_replicate, List.length_set]; omega)) (by (try simp only [List.length_append, List.length_cons, List.length_nil, Int.toNat_zero]); omega)
    | false =>
     have q0 := of_decide_eq_false h0
     have e := Eq.refl (S35_4 a0 (v8, v9)); conv at e => rhs; simp only [S35_4, h0, cond_true, cond_false]
     rw [loopF_s, e]
     refine en [.d h0] [] [1, 5, 13] [2, 3] hcx B35_6 (K35_6) (st35_6 a0 (flat c4 v8) (v8.length) 0) (Int.toNat (((v8.length : Nat) : Int) - 0) + 1) (by kernel_rfl) ?_
     exact L35_6 a0 l0_1 l0_2 hcx (Int.toNat (((v8.length : Nat) : Int) - 0) + 1) v8 0 (by refine ⟨?_, ?_, ?_, ?_, ?_⟩ <;> first | omega | assumption | exact okTo_0 | exact hi.2.1 | exact hi.2.2.1 | exact okTo_le hi.2.2.1 (by omega) | exact okTo_s hi.2.2.1 hfo | exact okTo_s hi.2.2.1 (by refine ⟨⟨?_, ?_⟩, ⟨?_, ?_⟩, ?_, ?_⟩ <;> omega) | (simp only [List.length_replicate, List.length_set]; omega)) (by (try simp only [List.length_append, List.length_cons, List.length_nil, Int.toNat_zero]); omega)

set_option maxHeartbeats 4000000 in
theorem L35_2 (a0 : (List (Int × Int × Int)) × List (Int × Int × Int)) (l0_1 : a0.1.length ≤ 9223372036854775807) (l0_2 : a0.2.length ≤ 9223372036854775807) {cx : Cx} (hcx : cx.base = 2) : ∀ (n : Nat) (v5 : List (Bool)) (v6 : Int), (0 ≤ v6) ∧ (v5.length = a0.1.length) ∧ (okTo a0 v6) ∧ (v6 ≤ a0.2.length) ∧ (a0.1.length ≤ 64) ∧ (a0.2.length ≤ 96) → Int.toNat (((a0.2.length : Nat) : Int) - v6) < n → Aw.Good Tryz.prog none 9 (bodyPost Tryz.prog Tryz.f35 (RR cx (iv (loopF (S35_2 a0) n (v5, v6))) [] [])) cx [] (.l B35_2 n :: K35_2) (st35_2 a0 (flat c4 v5) v5.length v6) := by
  intro n
  induction n with
  | zero => intro v5 v6 hi hn; exact absurd hn (Nat.not_lt_zero _)
  | succ n ih =>
    intro v5 v6 hi hn
    refine good_round ?_
    cases h0 : (decide ((v6 : Int) < ((a0.2.length : Nat) : Int))) with
    | true =>
     have q0 := of_decide_eq_true h0
     let t1 : List (St Tryz.prog) := [.d h0, .u 200, .T, .i v6 (a0.2.length), .i 0 3 (by decide), .L c85_len a0.2 v6 0 1]
     cases h1 : (decide (((a0.2.getD (Int.toNat v6) default).1 : Int) < 0)) with
     | true =>
      have q1 := of_decide_eq_true h1
      have e := Eq.refl (S35_2 a0 (v5, v6)); conv at e => rhs; simp only [S35_2, h0, h1, cond_true, cond_false]
      rw [loopF_s, e]
      exact rt (t1 ++ [.d h1]) [] [] hcx (by kernel_rfl)
     | false =>
      have q1 := of_decide_eq_false h1
      let t2 : List (St Tryz.prog) := (t1 ++ [.d h1])
      cases h2 : (decide (((a0.2.getD (Int.toNat v6) default).1 : Int) ≥ ((a0.1.length : Nat) : Int))) with
      | true =>
       have q2 := of_decide_eq_true h2
       have e := Eq.refl (S35_2 a0 (v5, v6)); conv at e => rhs; simp only [S35_2, h0, h1, h2, cond_true, cond_false]
       rw [loopF_s, e]
       exact rt (t2 ++ [.d h2]) [] [] hcx (by kernel_rfl)
      | false =>
       have q2 := of_decide_eq_false h2
       let t3 : List (St Tryz.prog) := (t2 ++ [.d h2, .i ((a0.2.getD (Int.toNat v6) default).1) (v5.length), .p (show ((0 + Int.toNat (a0.2.getD (Int.toNat v6) default).1 * 1) + 1 ≤ (flat c4 v5).length) from (flat_setl c4_len (by first | omega | (simp only [List.length_set]; omega)) (i := Int.toNat (a0.2.getD (Int.toNat v6) default).1) (o := 0) (n := 1) (Nat.le_of_ble_eq_true rfl))), .u 0, .T, .i v6 (a0.2.length), .i 1 3 (by decide), .L c85_len a0.2 v6 1 1])
       cases h3 : (decide (((a0.2.getD (Int.toNat v6) default).2.1 : Int) < 0)) with
       | true =>
        have q3 := of_decide_eq_true h3
        have e := Eq.refl (S35_2 a0 (v5, v6)); conv at e => rhs; simp only [S35_2, h0, h1, h2, h3, cond_true, cond_false]
        rw [loopF_s, e]
        exact rt (t3 ++ [.d h3]) [] [] hcx (by kernel_rfl)
       | false =>
        have q3 := of_decide_eq_false h3
        let t4 : List (St Tryz.prog) := (t3 ++ [.d h3])
        cases h4 : (decide (((a0.2.getD (Int.toNat v6) default).2.1 : Int) ≥ ((a0.1.length : Nat) : Int))) with
        | true =>
         have q4 := of_decide_eq_true h4
         have e := Eq.refl (S35_2 a0 (v5, v6)); conv at e => rhs; simp only [S35_2, h0, h1, h2, h3, h4, cond_true, cond_false]
         rw [loopF_s, e]
         exact rt (t4 ++ [.d h4]) [] [] hcx (by kernel_rfl)
        | false =>
         have q4 := of_decide_eq_false h4
         let t5 : List (St Tryz.prog) := (t4 ++ [.d h4, .i ((a0.2.getD (Int.toNat v6) default).2.1) (v5.length), .p (show ((0 + Int.toNat (a0.2.getD (Int.toNat v6) default).2.1 * 1) + 1 ≤ (splice (flat c4 v5) (0 + Int.toNat (a0.2.getD (Int.toNat v6) default).1 * 1) [(.v (.bool true))]).length) from (by rw [show (splice (flat c4 v5) (0 + Int.toNat (a0.2.getD (Int.toNat v6) default).1 * 1) [(.v (.bool true))]) = flat c4 (v5.set (Int.toNat (a0.2.getD (Int.toNat v6) default).1) true) from (flat_set c4_len (by first | omega | (simp only [List.length_set]; omega)) (i := Int.toNat (a0.2.getD (Int.toNat v6) default).1) (o := 0) (d := default) (y := true) (Nat.le_of_ble_eq_true rfl) rfl)]; exact flat_setl c4_len (by first | omega | (simp only [List.length_set]; omega)) (i := Int.toNat (a0.2.getD (Int.toNat v6) default).2.1) (o := 0) (n := 1) (Nat.le_of_ble_eq_true rfl))), .u 0, .T, .i v6 (a0.2.length), .i 2 3 (by decide), .L c85_len a0.2 v6 2 1])
         cases h5 : (decide (((a0.2.getD (Int.toNat v6) default).2.2 : Int) < 0)) with
         | true =>
          have q5 := of_decide_eq_true h5
          have e := Eq.refl (S35_2 a0 (v5, v6)); conv at e => rhs; simp only [S35_2, h0, h1, h2, h3, h4, h5, cond_true, cond_false]
          rw [loopF_s, e]
          exact rt (t5 ++ [.d h5]) [] [] hcx (by kernel_rfl)
         | false =>
          have q5 := of_decide_eq_false h5
          let t6 : List (St Tryz.prog) := (t5 ++ [.d h5])
          cases h6 : (decide (((a0.2.getD (Int.toNat v6) default).2.2 : Int) ≥ ((a0.1.length : Nat) : Int))) with
          | true =>
           have q6 := of_decide_eq_true h6
           have e := Eq.refl (S35_2 a0 (v5, v6)); conv at e => rhs; simp only [S35_2, h0, h1, h2, h3, h4, h5, h6, cond_true, cond_false]
           rw [loopF_s, e]
           exact rt (t6 ++ [.d h6]) [] [] hcx (by kernel_rfl)
          | false =>
           have q6 := of_decide_eq_false h6
           let t7 : List (St Tryz.prog) := (t6 ++ [.d h6, .i ((a0.2.getD (Int.toNat v6) default).2.2) (v5.length), .p (show ((0 + Int.toNat (a0.2.getD (Int.toNat v6) default).2.2 * 1) + 1 ≤ (splice (splice (flat c4 v5) (0 + Int.toNat (a0.2.getD (Int.toNat v6) default).1 * 1) [(.v (.bool true))]) (0 + Int.toNat (a0.2.getD (Int.toNat v6) default).2.1 * 1) [(.v (.bool true))]).length) from (by rw [show (splice (splice (flat c4 v5) (0 + Int.toNat (a0.2.getD (Int.toNat v6) default).1 * 1) [(.v (.bool true))]) (0 + Int.toNat (a0.2.getD (Int.toNat v6) default).2.1 * 1) [(.v (.bool true))]) = flat c4 ((v5.set (Int.toNat (a0.2.getD (Int.toNat v6) default).1) true).set (Int.toNat (a0.2.getD (Int.toNat v6) default).2.1) true) from (by rw [show (splice (flat c4 v5) (0 + Int.toNat (a0.2.getD (Int.toNat v6) default).1 * 1) [(.v (.bool true))]) = flat c4 (v5.set (Int.toNat (a0.2.getD (Int.toNat v6) default).1) true) from (flat_set c4_len (by first | omega | (simp only [List.length_set]; omega)) (i := Int.toNat (a0.2.getD (Int.toNat v6) default).1) (o := 0) (d := default) (y := true) (Nat.le_of_ble_eq_true rfl) rfl)]; exact flat_set c4_len (by first | omega | (simp only [List.length_set]; omega)) (i := Int.toNat (a0.2.getD (Int.toNat v6) default).2.1) (o := 0) (d := default) (y := true) (Nat.le_of_ble_eq_true rfl) rfl)]; exact flat_setl c4_len (by first | omega | (simp only [List.length_set]; omega)) (i := Int.toNat (a0.2.getD (Int.toNat v6) default).2.2) (o := 0) (n := 1) (Nat.le_of_ble_eq_true rfl))), .u 0, .F, .c [0, 1] (C78 (a0.1, a0.2) v6 (by (try simp only [List.length_append, List.length_cons, List.length_nil, Int.toNat_zero]); omega) (by (try simp only [List.length_append, List.length_cons, List.length_nil, Int.toNat_zero]); omega) (by show 0 ≤ _ ∧ _ < ((a0.2.length : Nat) : Int); omega) (by show inF a0.1.length (a0.2.getD _ default); refine ⟨⟨?_, ?_⟩, ⟨?_, ?_⟩, ?_, ?_⟩ <;> omega)), .c [] (C77 (F78 (a0.1, a0.2) v6))])
           cases h7 : ((((F77 (F78 (a0.1, a0.2) v6)).1 : Int) == 0) && ((((F77 (F78 (a0.1, a0.2) v6)).2.1 : Int) == 0) && ((((F77 (F78 (a0.1, a0.2) v6)).2.2 : Int) == 0) && true))) with
           | true =>
            have e := Eq.refl (S35_2 a0 (v5, v6)); conv at e => rhs; simp only [S35_2, h0, h1, h2, h3, h4, h5, h6, h7, cond_true, cond_false]
            rw [loopF_s, e]
            exact rt (t7 ++ [.d h7]) [] [] hcx (by kernel_rfl)
           | false =>
            have e := Eq.refl (S35_2 a0 (v5, v6)); conv at e => rhs; simp only [S35_2, h0, h1, h2, h3, h4, h5, h6, h7, cond_true, cond_false]
            rw [loopF_inl e]
            refine ba (t7 ++ [.d h7]) [] [1, 5, 6] [2, 3] hcx (m := n) B35_2 (K35_2) (st35_2 a0 (splice (splice (splice (flat c4 v5) (0 + Int.toNat (a0.2.getD (Int.toNat v6) default).1 * 1) [(.v (.bool true))]) (0 + Int.toNat (a0.2.getD (Int.toNat v6) default).2.1 * 1) [(.v (.bool true))]) (0 + Int.toNat (a0.2.getD (Int.toNat v6) default).2.2 * 1) [(.v (.bool true))]) (v5.length) (W (v6 + 1))) (by kernel_rfl) ?_
            have z0 : (W (v6 + 1)) = (v6 + 1) := W_eq (by omega) (by omega)
            have z1 : (splice (splice (splice (flat c4 v5) (0 + Int.toNat (a0.2.getD (Int.toNat v6) default).1 * 1) [(.v (.bool true))]) (0 + Int.toNat (a0.2.getD (Int.toNat v6) default).2.1 * 1) [(.v (.bool true))]) (0 + Int.toNat (a0.2.getD (Int.toNat v6) default).2.2 * 1) [(.v (.bool true))]) = flat c4 (((v5.set (Int.toNat (a0.2.getD (Int.toNat v6) default).1) true).set (Int.toNat (a0.2.getD (Int.toNat v6) default).2.1) true).set (Int.toNat (a0.2.getD (Int.toNat v6) default).2.2) true) := (by rw [show (splice (splice (flat c4 v5) (0 + Int.toNat (a0.2.getD (Int.toNat v6) default).1 * 1) [(.v (.bool true))]) (0 + Int.toNat (a0.2.getD (Int.toNat v6) default).2.1 * 1) [(.v (.bool true))]) = flat c4 ((v5.set (Int.toNat (a0.2.getD (Int.toNat v6) default).1) true).set (Int.toNat (a0.2.getD (Int.toNat v6) default).2.1) true) from (by rw [show (splice (flat c4 v5) (0 + Int.toNat (a0.2.getD (Int.toNat v6) default).1 * 1) [(.v (.bool true))]) = flat c4 (v5.set (Int.toNat (a0.2.getD (Int.toNat v6) default).1) true) from (flat_set c4_len (by first | omega | (simp only [List.length_set]; omega)) (i := Int.toNat (a0.2.getD (Int.toNat v6) default).1) (o := 0) (d := default) (y := true) (Nat.le_of_ble_eq_true rfl) rfl)]; exact flat_set c4_len (by first | omega | (simp only [List.length_set]; omega)) (i := Int.toNat (a0.2.getD (Int.toNat v6) default).2.1) (o := 0) (d := default) (y := true) (Nat.le_of_ble_eq_true rfl) rfl)]; exact flat_set c4_len (by first | omega | (simp only [List.length_set]; omega)) (i := Int.toNat (a0.2.getD (Int.toNat v6) default).2.2) (o := 0) (d := default) (y := true) (Nat.le_of_ble_eq_true rfl) rfl)
            have z2 : v5.length = (((v5.set (Int.toNat (a0.2.getD (Int.toNat v6) default).1) true).set (Int.toNat (a0.2.getD (Int.toNat v6) default).2.1) true).set (Int.toNat (a0.2.getD (Int.toNat v6) default).2.2) true).length := by simp
            rw [z0, z1, z2]
            exact ih (((v5.set (Int.toNat (a0.2.getD (Int.toNat v6) default).1) true).set (Int.toNat (a0.2.getD (Int.toNat v6) default).2.1) true).set (Int.toNat (a0.2.getD (Int.toNat v6) default).2.2) true) (v6 + 1) (by refine ⟨?_, ?_, ?_, ?_, ?_, ?_⟩ <;> first | omega | assumption | exact okTo_0 | exact hi.2.1 | exact hi.2.2.1 | exact okTo_le hi.2.2.1 (by omega) | exact okTo_s hi.2.2.1 hfo | exact okTo_s hi.2.2.1 (by refine ⟨⟨?_, ?_⟩, ⟨?_, ?_⟩, ?_, ?_⟩ <;> omega) | (simp only [List.length_replicate, List.length_set]; omega)) (by (try simp only [List.length_append, List.length_cons, List.length_nil, Int.toNat_zero]); omega)
    | false =>
     have q0 := of_decide_eq_false h0
     have e := Eq.refl (S35_2 a0 (v5, v6)); conv at e => rhs; simp only [S35_2, h0, cond_true, cond_false]
     rw [loopF_s, e]
     refine en [.d h0] [] [1, 5, 9] [2, 3] hcx B35_4 (K35_4) (st35_4 a0 (flat c4 v5) (v5.length) 0) (Int.toNat (((a0.2.length : Nat) : Int) - 0) + 1) (by kernel_rfl) ?_
     exact L35_4 a0 l0_1 l0_2 hcx (Int.toNat (((a0.2.length : Nat) : Int) - 0) + 1) v5 0 (by refine ⟨?_, ?_, ?_, ?_, ?_⟩ <;> first | omega | assumption | exact okTo_0 | exact hi.2.1 | exact hi.2.2.1 | exact okTo_le hi.2.2.1 (by omega) | exact okTo_s hi.2.2.1 hfo | exact okTo_s hi.2.2.1 (by refine ⟨⟨?_, ?_⟩, ⟨?_, ?_⟩, ?_, ?_⟩ <;> omega) | (simp only [List.length_replicate, List.length_set]; omega)) (by (try simp only [List.length_append, List.length_cons, List.length_nil, Int.toNat_zero]); omega)

set_option maxHeartbeats 4000000 in
theorem L35_0 (a0 : (List (Int × Int × Int)) × List (Int × Int × Int)) (l0_1 : a0.1.length ≤ 9223372036854775807) (l0_2 : a0.2.length ≤ 9223372036854775807) {cx : Cx} (hcx : cx.base = 2) : ∀ (n : Nat) (v1 : Int), (0 ≤ v1) ∧ (a0.1.length ≤ 64) ∧ (a0.2.length ≤ 96) → Int.toNat (((a0.1.length : Nat) : Int) - v1) < n → Aw.Good Tryz.prog none 9 (bodyPost Tryz.prog Tryz.f35 (RR cx (iv (loopF (S35_0 a0) n v1)) [] [])) cx [] (.l B35_0 n :: K35_0) (st35_0 a0 v1) := by
  intro n
  induction n with
  | zero => intro v1 hi hn; exact absurd hn (Nat.not_lt_zero _)
  | succ n ih =>
    intro v1 hi hn
    refine good_round ?_
    cases h0 : (decide ((v1 : Int) < ((a0.1.length : Nat) : Int))) with
    | true =>
     have q0 := of_decide_eq_true h0
     let t1 : List (St Tryz.prog) := [.d h0, .i v1 (a0.1.length), .L c27_len a0.1 v1 0 3, .c [] (C76 (a0.1.getD (Int.toNat v1) default) 64)]
     cases h1 : (!(F76 (a0.1.getD (Int.toNat v1) default) 64)) with
     | true =>
      have e := Eq.refl (S35_0 a0 v1); conv at e => rhs; simp only [S35_0, h0, h1, cond_true, cond_false]
      rw [loopF_s, e]
      exact rt (t1 ++ [.d h1]) [] [] hcx (by kernel_rfl)
     | false =>
      have e := Eq.refl (S35_0 a0 v1); conv at e => rhs; simp only [S35_0, h0, h1, cond_true, cond_false]
      rw [loopF_s, e]
      refine en (t1 ++ [.d h1]) [] [1, 3, 4] [2] hcx B35_1 (K35_1 n) (st35_1 a0 v1 0) (Int.toNat (v1 - 0) + 1) (by kernel_rfl) ?_
      exact L35_1 a0 l0_1 l0_2 hcx n ih (Int.toNat (v1 - 0) + 1) v1 0 (by refine ⟨?_, ?_, ?_, ?_, ?_, ?_⟩ <;> (try simp only [List.length_append, List.length_cons, List.length_nil, Int.toNat_zero]) <;> first | omega | assumption | exact hi.2.1 | exact hi.2.2.1 | exact hi.2.2.2.1 | exact hi.2.2.2.2.1 | exact hi.2.2.2.2.2.1 | simp) (by (try simp only [List.length_append, List.length_cons, List.length_nil, Int.toNat_zero]); omega)
    | false =>
     have q0 := of_decide_eq_false h0
     have e := Eq.refl (S35_0 a0 v1); conv at e => rhs; simp only [S35_0, h0, cond_true, cond_false]
     rw [loopF_s, e]
     refine en [.d h0, .Z c4 false [(.v (.bool false))] ((a0.1.length : Nat) : Int) 1] [] [1, 5, 6] [2, 3] hcx B35_2 (K35_2) (st35_2 a0 (flat c4 (List.replicate (Int.toNat ((a0.1.length : Nat) : Int)) false)) (Int.toNat ((a0.1.length : Nat) : Int)) 0) (Int.toNat (((a0.2.length : Nat) : Int) - 0) + 1) (by kernel_rfl) ?_
     have q := L35_2 a0 l0_1 l0_2 hcx (Int.toNat (((a0.2.length : Nat) : Int) - 0) + 1) (List.replicate (Int.toNat ((a0.1.length : Nat) : Int)) false) 0 (by refine ⟨?_, ?_, ?_, ?_, ?_, ?_⟩ <;> first | omega | assumption | exact okTo_0 | exact hi.2.1 | exact hi.2.2.1 | exact okTo_le hi.2.2.1 (by omega) | exact okTo_s hi.2.2.1 hfo | exact okTo_s hi.2.2.1 (by refine ⟨⟨?_, ?_⟩, ⟨?_, ?_⟩, ?_, ?_⟩ <;> omega) | (simp only [List.length_replicate, List.length_set]; omega)) (by (try simp only [List.length_append, List.length_cons, List.length_nil, Int.toNat_zero]); omega)
     simp only [List.length_replicate] at q
     exact q

def F35 (a0 : (List (Int × Int × Int)) × List (Int × Int × Int)) : Int :=
  (bif (decide ((((a0.1.length : Nat) : Int) : Int) > 64)) then
   4
  else
   (bif (!(F75 ((a0.2.length : Nat) : Int) 1 96)) then
    4
   else
    (loopF (S35_0 a0) (Int.toNat (((a0.1.length : Nat) : Int) - 0) + 1) 0)))

theorem C35 (a0 : (List (Int × Int × Int)) × List (Int × Int × Int)) (l0_1 : a0.1.length ≤ 9223372036854775807) (l0_2 : a0.2.length ≤ 9223372036854775807) : Con Tryz.prog 35 [(.a [(.s 0 0 a0.1.length 3), (.s 1 0 a0.2.length 3)])] [(.live false true (flat c27 a0.1)), (.live false true (flat c85 a0.2))] (iv (F35 a0)) [] := by
  refine con_s Tryz.func35 (by kernel_rfl) fun cx hcx => ?_
  try have hl96 := win_p2 h1
  cases h0 : (decide ((((a0.1.length : Nat) : Int) : Int) > 64)) with
  | true =>
   have q0 := of_decide_eq_true h0
   try have hl96 := win_p2 h1
   have e := Eq.refl (F35 a0); conv at e => rhs; simp only [F35, h0, cond_true, cond_false]
   rw [e]
   exact rt [.d h0] [] [] hcx (by kernel_rfl)
  | false =>
   have q0 := of_decide_eq_false h0
   try have hl96 := win_p2 h1
   let t1 : List (St Tryz.prog) := [.d h0, .c [] (C75 ((a0.2.length : Nat) : Int) 1 96)]
   cases h1 : (!(F75 ((a0.2.length : Nat) : Int) 1 96)) with
   | true =>
    try have hl96 := win_p2 h1
    have e := Eq.refl (F35 a0); conv at e => rhs; simp only [F35, h0, h1, cond_true, cond_false]
    rw [e]
    exact rt (t1 ++ [.d h1]) [] [] hcx (by kernel_rfl)
   | false =>
    try have hl96 := win_p2 h1
    have e := Eq.refl (F35 a0); conv at e => rhs; simp only [F35, h0, h1, cond_true, cond_false]
    rw [e]
    refine en (t1 ++ [.d h1]) [] [1, 3] [2] hcx B35_0 (K35_0) (st35_0 a0 0) (Int.toNat (((a0.1.length : Nat) : Int) - 0) + 1) (by kernel_rfl) ?_
    exact L35_0 a0 l0_1 l0_2 hcx (Int.toNat (((a0.1.length : Nat) : Int) - 0) + 1) 0 (by refine ⟨?_, ?_, ?_⟩ <;> (try simp only [List.length_append, List.length_cons, List.length_nil, Int.toNat_zero]) <;> first | omega | assumption | simp) (by (try simp only [List.length_append, List.length_cons, List.length_nil, Int.toNat_zero]); omega)

end Go.Proofs.YthpgabaeefifbaaGreat
